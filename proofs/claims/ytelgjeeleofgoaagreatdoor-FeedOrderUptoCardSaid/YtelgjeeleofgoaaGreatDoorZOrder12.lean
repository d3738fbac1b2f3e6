/- FeedOrder holds: for every status, list of headers, text and time whose reading is of bulk at most 1048576, the law answers true. -/
import Derived.Test.YtelgjeeleofgoaaGreatDoorZOrder9
import Derived.Test.YtelgjeeleofgoaaGreatDoorZOrder8
import Derived.Test.YtelgjeeleofgoaaGreatDoorZOrder11
import Derived.Test.YtelgjeeleofgoaaGreatDoorZOrder10
import Derived.Test.YtelgjeeleofgoaaGreatDoorTie
/- FeedOrder, in plain words. -/
namespace Go.Proofs.YtelgjeeleofgoaaGreatDoor
open Go.RowKit Go.Proofs.YtelgjeeleofgoaaGreatDoorW.PrintWords PF
set_option linter.unusedVariables false

def nRetry : ByteArray := ⟨#[82, 101, 116, 114, 121, 45, 65, 102, 116, 101, 114]⟩
def nDate : ByteArray := ⟨#[68, 97, 116, 101]⟩
def trimE (s : ByteArray) : ByteArray := ⟨(Lib.trimS s.data.toList (⟨#[32, 9]⟩ : ByteArray).data.toList).toArray⟩
theorem trim_some (s : ByteArray) (hs : s.size ≤ 3000000) : strings_Trim.f s (⟨#[32, 9]⟩ : ByteArray) = some (trimE s) := by
  unfold strings_Trim.f
  rw [if_pos ⟨by omega, by decide, by decide⟩]
  rfl
theorem trimE_le (s : ByteArray) : (trimE s).size ≤ s.size := by
  show (Lib.trimS _ _).toArray.size ≤ _
  have e1 : s.data.toList.length = s.size := Array.length_toList
  have h1 := FM.dropWhile_le (fun x => (⟨#[32, 9]⟩ : ByteArray).data.toList.contains x) (s.data.toList.reverse)
  have h2 := FM.dropWhile_le (fun x => (⟨#[32, 9]⟩ : ByteArray).data.toList.contains x) (Lib.trimRightS s.data.toList [32, 9])
  rw [List.size_toArray]
  unfold Lib.trimS
  unfold Lib.trimLeftS at *
  unfold Lib.trimRightS at *
  simp only [List.length_reverse] at h1 h2 ⊢
  exact Nat.le_trans h2 (Nat.le_trans h1 (by omega))
theorem same4 {a b : ByteArray} {r : Bool} {k : Nat} (hk : 40 ≤ k) (e : feed_same.f 40 a b = some r) : feed_same.f k a b = some r := at_rounds (feed_same.mono a b) hk e
theorem same_rr : feed_same.f 40 nRetry nRetry = some true := by kernel_rfl
theorem same_dr : feed_same.f 40 nDate nRetry = some false := by kernel_rfl
/-- The last header's value, if it bears the name. -/
theorem value_last (l : List Hd) (h : Hd) (key : ByteArray) (k : Nat) (hk : 41 ≤ k) (hl : l.length < 1000000) (e : feed_same.f 40 h.f0 key = some true) (hs : h.f1.size ≤ 3000000) : feed_value.f k (l ++ [h]) key = some (trimE h.f1, true) := by
  obtain ⟨k', rfl⟩ : ∃ k', k = k' + 1 := ⟨k - 1, by omega⟩
  have w1 : wrap64 (((l ++ [h]).length : Int) - 1) = (l.length : Int) := by
    have e0 : ((l ++ [h]).length : Int) - 1 = (l.length : Int) := by simp
    rw [e0, w64 _ (by omega) (by omega)]
  have x1 : rd_T36 (l ++ [h]) (l.length : Int) = h := by unfold rd_T36; simp
  unfold feed_value.f
  rw [w1]
  simp only [feed_value.l0, x1]
  rw [if_pos (by omega), if_pos (by omega), if_pos (by simp only [List.length_append, List.length_cons, List.length_nil]; omega), same4 (k := k') (by omega) e]
  simp only [Option.bind_some, if_true]
  rw [trim_some _ hs]
  rfl
theorem value_fst (h : Hd) (d : Hd) (key : ByteArray) (k : Nat) (hk : 42 ≤ k) (e : feed_same.f 40 h.f0 key = some true) (e2 : feed_same.f 40 d.f0 key = some false) (hs : h.f1.size ≤ 3000000) : feed_value.f k [h, d] key = some (trimE h.f1, true) := by
  obtain ⟨k', rfl⟩ : ∃ k', k = k' + 2 := ⟨k - 2, by omega⟩
  have w1 : wrap64 ((([h, d] : List Hd).length : Int) - 1) = 1 := by rw [w64 _ (by simp) (by simp)]; rfl
  have w2 : wrap64 ((1 : Int) - 1) = 0 := by rw [w64 _ (by omega) (by omega)]; rfl
  have x1 : rd_T36 [h, d] 1 = d := rfl
  have x0 : rd_T36 [h, d] 0 = h := rfl
  unfold feed_value.f
  rw [w1]
  simp only [feed_value.l0, x1, x0, w2]
  rw [same4 (k := k' + 1) (by omega) e2, same4 (k := k') (by omega) e, trim_some _ hs]
  simp
theorem from_at (st : Int) (l : List Hd) (a : Int) (k : Nat) (hk : 5001 ≤ k) (hs : Short 3000 l) (hl : l.length ≤ 400) (t : ByteArray) (hv : feed_value.f k l nRetry = some (t, true)) (c r : Int) (ok : Bool) (hc : feed_Class.f k st = some c) (hr : feed_Retry.f t a = some (r, ok)) :
    ∃ q, feed_From.f k st l a = some (c, r, q) := by
  obtain ⟨q, b, hq, _, _⟩ := Reset_ok l a hs hl k hk
  have hv' : feed_value.f k l (⟨#[82, 101, 116, 114, 121, 45, 65, 102, 116, 101, 114]⟩ : ByteArray) = some (t, true) := hv
  unfold feed_From.f
  rw [hc, hv', hq]
  simp only [Option.bind_some, if_true, hr]
  exact ⟨q, rfl⟩
theorem order_true (st : Int) (l : List Hd) (v : ByteArray) (a : Int) (hs : Short 1048576 l) : decorumlaw08_FeedOrder.f 6000 st l v a = some true := by
  obtain ⟨K, hK⟩ : ∃ K, K + 1 = 6000 := ⟨5999, rfl⟩
  rw [← hK]
  unfold decorumlaw08_FeedOrder.f
  obtain ⟨b, hb, hb2⟩ := small_ok l hs (K + 1) (by omega)
  rw [hb]
  simp only [Option.bind_some, decorumlaw08_FeedOrder.j0, awake_up K (by omega)]
  cases b with
  | false => rfl
  | true =>
    obtain ⟨hl, hs3⟩ := hb2 rfl
    simp only [if_true]
    by_cases h3 : (v.size : Int) > 300
    · rw [if_pos (decide_eq_true h3)]
    · rw [if_neg (by rw [decide_eq_true_eq]; exact h3)]
      have hv : v.size ≤ 300 := by omega
      obtain ⟨c, hc, _, _⟩ := Class_ok st K (by omega)
      obtain ⟨r, ok, hr, _, _⟩ := Retry_ok (trimE v) a (by have := trimE_le v; omega)
      have hn : nRetry.size = 11 := rfl
      have hd : nDate.size = 4 := rfl
      have hz : (⟨#[48]⟩ : ByteArray).size = 1 := rfl
      obtain ⟨q1, e1⟩ := from_at st (l ++ [⟨nRetry, v⟩]) a K (by omega)
        (fun x hx => by
          rcases List.mem_append.1 hx with hx | hx
          · exact hs3 x hx
          · obtain rfl := List.mem_singleton.1 hx
            exact ⟨by show nRetry.size ≤ _; omega, by show v.size ≤ _; omega⟩)
        (by simp; omega) _ (value_last l ⟨nRetry, v⟩ nRetry K (by omega) (by omega) same_rr (by show v.size ≤ _; omega)) c r ok hc hr
      obtain ⟨q2, e2⟩ := from_at st [⟨nRetry, v⟩, ⟨nDate, ⟨#[48]⟩⟩] a K (by omega)
        (fun x hx => by
          simp only [List.mem_cons, List.not_mem_nil, or_false] at hx
          rcases hx with rfl | rfl
          · exact ⟨by show nRetry.size ≤ _; omega, by show v.size ≤ _; omega⟩
          · exact ⟨by show nDate.size ≤ _; omega, by show (⟨#[48]⟩ : ByteArray).size ≤ _; omega⟩)
        (by simp) _ (value_fst ⟨nRetry, v⟩ ⟨nDate, ⟨#[48]⟩⟩ nRetry K (by omega) same_rr same_dr (by show v.size ≤ _; omega)) c r ok hc hr
      unfold nRetry at e1 e2
      unfold nDate at e2
      simp only [List.nil_append, List.length_nil, Nat.zero_add, List.length_cons]
      rw [if_pos (by omega), if_pos (by omega), e1, e2]
      simp
end Go.Proofs.YtelgjeeleofgoaaGreatDoor


namespace Go.Proofs.YtelgjeeleofgoaaGreatDoor.feedOrder
open Go.ChangeMaps (open_string shut_string)
open Go.ChangeShapes Go.WideShapes Go.ChangeAt Go.RowKit Go.Proofs.YtelgjeeleofgoaaGreatDoorW.PrintWords PF
set_option linter.unusedVariables false

theorem own : ownKnob Tryz.prog.godebug = none := by kernel_rfl
set_option maxRecDepth 100000 in
theorem contract (H : Type) (enc : TypeId × Value → H) (W : World) (base : Nat) (args : Array Value) (ds gs : List (DataW H)) (before : List MemPlace)
    (hval : ∀ (j : Nat) t v, Tryz.f6.params[j]? = some t → args[j]? = some v → Value.okWide Tryz.prog W .any base t v)
    (hW : DataW.Whole enc Tryz.prog Tryz.f6.params.toList Rows.feedOrderSpec.vars false W args.toList ds gs before) (hk : Rows.uptoSmall H (ds ++ gs) = true) (hG : Glob W) :
    Calls Tryz.prog 6 args W fun e W' => ∃ v, e = .returned v ∧ Rows.feedOrderSpec.post enc Tryz.prog Tryz.f6 false true false false W args v W' := by
  have hW' := hW
  obtain ⟨p, q, hA0, hV, rfl, hfz, hnd⟩ := hW
  have hA : DataW.TrodAll enc Tryz.prog W 0 (fun _ => true) true Tryz.f6.params.toList args.toList ds p := hA0
  rw [Tryz.params6] at hA hval
  obtain ⟨v0, vs0, d0, ds0, p0, q0, hargs, rfl, rfl, h0, r0⟩ := trodAll_cons hA
  obtain ⟨v1, vs1, d1, ds1, p1, q1, rfl, rfl, rfl, h1, r1⟩ := trodAll_cons r0
  obtain ⟨v2, vs2, d2, ds2, p2, q2, rfl, rfl, rfl, h2, r2⟩ := trodAll_cons r1
  obtain ⟨v3, vs3, d3, ds3, p3, q3, rfl, rfl, rfl, h3, r3⟩ := trodAll_cons r2
  obtain ⟨rfl, rfl, rfl⟩ := trodAll_nil r3
  obtain rfl : args = #[v0, v1, v2, v3] := by cases args; simp_all
  obtain ⟨rfl, rfl⟩ := trodVars_none hV
  obtain ⟨a0, rfl, rfl, rfl, w0⟩ := open_int Tryz.underlying3 (hval 0 3 v0 rfl rfl) h0
  obtain ⟨a2, rfl, rfl, rfl, y2⟩ := open_string Tryz.underlying9 (hval 2 9 v2 rfl rfl) h2
  obtain ⟨a3, rfl, rfl, rfl, w3⟩ := open_int Tryz.underlying3 (hval 3 3 v3 rfl rfl) h3
  obtain ⟨A1, n1, c1, rfl⟩ := okWide_slice Tryz.underlying22 (hval 1 22 v1 rfl rfl)
  have k1 := h1
  have lt1 : ∀ x ∈ p1, x.block < W.heap.size := by obtain ⟨m, hm⟩ := k1; exact DataW.trod_lt m _ _ _ hm
  obtain ⟨l, rfl, hlc, hC, hS⟩ := heads_open h1
  have hb := bulk_bound hk
  simp only [Rows.uptoBulkAll, List.append_nil] at hb
  have hs := hS (by omega)
  clear hA0 hk hval h0 h2 h3 r0 r1 r2 r3
  refine (decorumlaw08_FeedOrder.calls 6000 a0 A1 c1 l a2 a3 true W hG hC hlc rfl (order_true a0 l a2 a3 hs)).mono fun e W' ⟨he, bel⟩ => ?_
  subst he
  exact ⟨_, rfl, _, _, _, [], _, [], hW', trodAll_mk1 (shut_bool Tryz.underlying4 _), trodAll_cons_mk (shut_int Tryz.underlying3 w0) (trodAll_cons_mk (Below.trod laidOut (by kernel_rfl) (of_decide_eq_true (by kernel_rfl)) k1 bel lt1) (trodAll_cons_mk (shut_string Tryz.underlying9 y2) (trodAll_cons_mk (shut_int Tryz.underlying3 w3) trodAll_mk0))), rfl, bel.frame _, fun h => by cases h⟩

theorem reads (os : Os) {H : Type} (enc : TypeId × Value → H) : ∃ places, DataW.whole enc Tryz.prog ((World.laidAll Tryz.prog os laidL).forCall (fun _ _ => 0) ⟨#[], #[.int .i64 0, .slice none 0 0, .string ByteArray.empty, .int .i64 0], []⟩).memory Tryz.f6.params.toList Rows.feedOrderSpec.vars false #[Value.int .i64 0, .slice none 0 0, .string ByteArray.empty, .int .i64 0].toList 8 =
    some ([.lit (.int .i64 0), .nil, .lit (.string []), .lit (.int .i64 0)], [], places) := ⟨[], by kernel_rfl⟩

theorem okw (os : Os) : Input.okWideB Tryz.checked.prog ((World.laidAll Tryz.prog os laidL).forCall (fun _ _ => 0) ⟨#[], #[.int .i64 0, .slice none 0 0, .string ByteArray.empty, .int .i64 0], []⟩) 6 ⟨#[], #[.int .i64 0, .slice none 0 0, .string ByteArray.empty, .int .i64 0], []⟩ = true := by kernel_rfl
set_option maxRecDepth 100000 in
theorem liftedUpto (os : Os) (started : os.Started) (H : Type) (enc : TypeId × Value → H) (F : Stop.Interp) :
    ReturnsInHanded {} Tryz.checked os 6 .any ((Rows.OpenSpec.upto Rows.feedOrderSpec).preRow enc Tryz.prog Tryz.f6 Rows.feedOrderUptoRow.domain false Rows.feedOrderUptoRow.laid) (((Rows.OpenSpec.upto Rows.feedOrderSpec).at F).post enc Tryz.prog Tryz.f6 false true false false) := by
  obtain ⟨places, hx⟩ := reads os enc
  refine returnsInHanded_of_row (C := Tryz.checked) (s := Rows.OpenSpec.upto Rows.feedOrderSpec) own started (by kernel_rfl) Tryz.func6
    ⟨World.laidAll Tryz.prog os laidL, fun _ _ => 0, ⟨#[], #[.int .i64 0, .slice none 0 0, .string ByteArray.empty, .int .i64 0], []⟩, World.laidAll_os _ _ _, shaped_laid os _, (Input.okWide_of_okWideB (base := 0) (okw os)).1, (Input.okWide_of_okWideB (okw os)).2,
      OpenSpec.preRow_of_cond 8 hx (by kernel_rfl) (fun k hk => by cases hk; kernel_rfl) (by kernel_rfl) (met_laid os _), by
        simp only [Assume.holds]
        exact ⟨by simp, by simp, fun _ => Modest.zero, by simp, by simp⟩⟩ ?_
  intro W base args ds gs before hval hW _ hcond _ hL hS _
  exact contract H enc W base args ds gs before hval hW (hcond _ rfl) (glob_of hL hS)

theorem saidUpto : Rows.FeedOrderUptoSaid :=
  OpenClaim.holds_of_cond 6 Tryz.f6 rfl rfl rfl rfl rfl rfl rfl ⟨rfl, rfl, rfl, rfl, rfl⟩ rfl rfl rfl rfl rfl (by kernel_rfl) Tryz.func6 (by kernel_rfl)
    (of_decide_eq_true (by kernel_rfl)) (by unfold Func.isWrapper; first | (rw [if_pos (by decide +kernel)]; kernel_rfl) | (rw [if_neg (by decide +kernel)]; exact ⟨rfl, rfl⟩))
    (fun os started H enc _ F => by rw [OpenClaim.pre_eq_preRow]; exact liftedUpto os started H enc F)
theorem plain (f : FuncId) (fn : Func) (hf : Tryz.pinned.checked.prog.funcNamed "decorum/decorumlaw08.FeedOrder" = some f) (hfn : Tryz.pinned.checked.prog.funcs[f]? = some fn) :
    Rows.feedOrderUptoCard.stood.looks = Tryz.pinned.checked.prog.looks [] ∧ ∀ (j : Nat) t, fn.params[j]? = some t → Tryz.pinned.checked.prog.wantsStandIn t = false := by
  obtain rfl : f = 6 := Option.some.inj ((show Tryz.prog.funcNamed "decorum/decorumlaw08.FeedOrder" = some 6 by kernel_rfl).symm.trans hf) |>.symm
  obtain rfl : fn = Tryz.f6 := (Option.some.inj (Tryz.func6.symm.trans hfn)).symm
  refine ⟨by kernel_rfl, fun j t ht => ?_⟩
  rw [Tryz.params6] at ht
  have hm : t ∈ [3, 22, 9, 3] := by simpa using Array.mem_of_getElem? ht
  have hall : ([3, 22, 9, 3].all fun u => !Tryz.prog.wantsStandIn u) = true := by kernel_rfl
  exact (show Tryz.prog.wantsStandIn t = false by simpa using List.all_eq_true.1 hall t hm)
theorem cardUpto : Rows.FeedOrderUptoCardSaid :=
  Claim7.holds_tied_plain_at .later [] _ _ _ _ saidUpto (fun _ h => by cases h) (by kernel_rfl) (fun _ h => by cases h) feedOrderUpto_row_tie rfl ⟨rfl, rfl⟩ (by kernel_rfl) rfl plain (by kernel_rfl)
end Go.Proofs.YtelgjeeleofgoaaGreatDoor.feedOrder
namespace Go.Proofs.YtelgjeeleofgoaaGreatDoor
/-- The card, under a short name, for the claim. -/
theorem feedOrder_upto : Rows.FeedOrderUptoCardSaid := feedOrder.cardUpto
end Go.Proofs.YtelgjeeleofgoaaGreatDoor
