/- A part of the proof (see the last text): texts of the session and printed words, put together by a program of the session. -/
import Derived.Test.YtelgjeeleofgoaaGreatDoorZOrder9
import Derived.Test.YtelgjeeleofgoaaGreatDoorZLater7
-- Printed by a program of this session (wip/pp.sh) out of the translation. Not trusted: Lean checks it.
namespace Go.Proofs.YtelgjeeleofgoaaGreatDoor.PF
open Go.RowKit Go.Proofs.YtelgjeeleofgoaaGreatDoorW.PrintWords Go.Proofs.YtelgjeeleofgoaaGreatDoorW.PrintLast Go.Proofs.YtelgjeeleofgoaaGreatDoorW.PrintMore
attribute [local go_sem] max2_int min2_int max_two min_two max_three min_three max_four min_four   -- for this text's walks alone
set_option linter.unusedVariables false
set_option linter.unusedSimpArgs false
noncomputable section

/-! ### decorumlaw08_FeedOrder: function 6 -/
def decorumlaw08_FeedOrder.j0 : Nat → Int → List (S36) → ByteArray → Int → Bool → Option (Bool)
  | 0, _, _, _, _, _ => none
  | k + 1, x0, x1, x2, x3, x19 => if x19 = true then ((decorumlaw08_awake.f k).bind fun t188 => (some t188)) else ((some (([] : List (S36)) : List (S36))).bind fun y190 => (if y190.length + x1.length < 4398046511104 then ((some (y190 ++ x1 : List (S36))).bind fun y193 => ((some (([(⟨(⟨#[82, 101, 116, 114, 121, 45, 65, 102, 116, 101, 114]⟩ : ByteArray), x2⟩ : S36)] : List (S36)) : List (S36))).bind fun y196 => (if y193.length + y196.length < 4398046511104 then ((feed_From.f k x0 (y193 ++ y196) x3).bind fun bt202 => ((feed_From.f k x0 (([(⟨(⟨#[82, 101, 116, 114, 121, 45, 65, 102, 116, 101, 114]⟩ : ByteArray), x2⟩ : S36), (⟨(⟨#[68, 97, 116, 101]⟩ : ByteArray), (⟨#[48]⟩ : ByteArray)⟩ : S36)] : List (S36))) x3).bind fun bt209 => ((decorumlaw08_awake.f k).bind fun t213 => (if t213 = true then (if bt202.2.1 = bt209.2.1 then (some (bt202.1 == bt209.1)) else (some false)) else (some false))))) else (none)))) else (none)))
def decorumlaw08_FeedOrder.f (k : Nat) (a0 : Int) (l1 : List (S36)) (a2 : ByteArray) (a3 : Int) : Option (Bool) := (decorumlaw08_small.f k l1).bind fun t187 => (if t187 = true then (decorumlaw08_FeedOrder.j0 k a0 l1 a2 a3 (decide ((a2.size : Int) > 300))) else (decorumlaw08_FeedOrder.j0 k a0 l1 a2 a3 true))
theorem decorumlaw08_FeedOrder.mono_l : ∀ k, (∀ y0 y1 y2 y3 y4, LeO (decorumlaw08_FeedOrder.j0 k y0 y1 y2 y3 y4) (decorumlaw08_FeedOrder.j0 (k + 1) y0 y1 y2 y3 y4))
  | 0 => fun _ _ _ _ _ r h => by simp [decorumlaw08_FeedOrder.j0] at h
  | k + 1 => by
    have ih0 := decorumlaw08_FeedOrder.mono_l k
    · intro y0 y1 y2 y3 y4
      unfold decorumlaw08_FeedOrder.j0
      repeat' first
      | (with_reducible exact ih0 _ _ _ _ _)
      | (with_reducible exact decorumlaw08_awake.mono _)
      | (with_reducible exact decorumlaw08_small.mono _ _)
      | (with_reducible exact feed_From.mono _ _ _ _)
      | (with_reducible exact LeO.refl _)
      | (with_reducible exact LeO.none _)
      | (with_reducible refine LeO.ite ?_ ?_)
      | (with_reducible refine LeO.bind ?_ (fun _ => ?_))
      | exact ih0 _ _ _ _ _
      | exact decorumlaw08_awake.mono _
      | exact decorumlaw08_small.mono _ _
      | exact feed_From.mono _ _ _ _
      | exact LeO.none _
      | refine LeO.ite ?_ ?_
      | refine LeO.bind ?_ (fun _ => ?_)
theorem decorumlaw08_FeedOrder.mono : ∀ a0 a1 a2 a3 k, LeO (decorumlaw08_FeedOrder.f k a0 a1 a2 a3) (decorumlaw08_FeedOrder.f (k + 1) a0 a1 a2 a3) := by
  intro a0 a1 a2 a3 k
  have ih0 := decorumlaw08_FeedOrder.mono_l k
  unfold decorumlaw08_FeedOrder.f
  repeat' first
      | (with_reducible exact ih0 _ _ _ _ _)
      | (with_reducible exact decorumlaw08_awake.mono _)
      | (with_reducible exact decorumlaw08_small.mono _ _)
      | (with_reducible exact feed_From.mono _ _ _ _)
      | (with_reducible exact LeO.refl _)
      | (with_reducible exact LeO.none _)
      | (with_reducible refine LeO.ite ?_ ?_)
      | (with_reducible refine LeO.bind ?_ (fun _ => ?_))
      | exact ih0 _ _ _ _ _
      | exact decorumlaw08_awake.mono _
      | exact decorumlaw08_small.mono _ _
      | exact feed_From.mono _ _ _ _
      | exact LeO.none _
      | refine LeO.ite ?_ ?_
      | refine LeO.bind ?_ (fun _ => ?_)
def decorumlaw08_FeedOrder.T4 : Bool × List (List Nat × List Nat) := (true, [([], []), ([], []), ([], []), ([1, 2], [1, 2]), ([], []), ([4], [4]), ([3, 5, 3], [3, 5]), ([], []), ([0, 6, 7, 6], [0, 6, 7]), ([], []), ([9, 8, 8, 0, 1, 2, 3, 4, 5, 6, 7, 8, 9], [8, 9])])
def decorumlaw08_FeedOrder.B4 : List Nat := [0, 0, 0, 6, 0, 16, 62, 0, 255, 0, 1023]
theorem decorumlaw08_FeedOrder.tab4 : rtab .any (opsOf Tryz.f6 4) = decorumlaw08_FeedOrder.T4 := by kernel_rfl
theorem decorumlaw08_FeedOrder.bits4 : waitsOk decorumlaw08_FeedOrder.T4.2 decorumlaw08_FeedOrder.B4 = true := by kernel_rfl
set_option maxHeartbeats 8000000 in
set_option maxRecDepth 100000 in
theorem decorumlaw08_FeedOrder.calls (k : Nat) (a0 : Int) (A1 : Option Addr) (c1 : Nat) (l1 : List (S36)) (a2 : ByteArray) (a3 : Int) (r : Bool) (w : World) (hG : Glob w) (hr1 : Kd.C k36 w A1 l1.length l1) (hc1 : l1.length ≤ c1) (hT : r = true) (h : decorumlaw08_FeedOrder.f k a0 l1 a2 a3 = some r) :
    Calls Tryz.prog 6 #[.int .i64 a0, .slice A1 l1.length c1, .string a2, .int .i64 a3] w fun e w' => e = .returned (.bool r) ∧ Below w.heap.size w w' := by
  have HT := Aside0.mk hT
  clear hT
  have hu36 := Tryz.underlying36
  have hu29 := Tryz.underlying29
  have HR1 := Aside0.mk hr1
  have HC1 := Aside0.mk hc1
  clear hr1 hc1
  have HB := Aside0.mk (Below.refl w.heap.size w)
  have HG := Aside0.mk hG
  clear hG
  have H : ((decorumlaw08_small.f k l1).bind fun t187 => (if t187 = true then (decorumlaw08_FeedOrder.j0 k a0 l1 a2 a3 (decide ((a2.size : Int) > 300))) else (decorumlaw08_FeedOrder.j0 k a0 l1 a2 a3 true))) = some r := h
  clear h
  have HC5 := Aside0.mk H
  clear H
  go_enter Tryz.func6, Tryz.ntmps6
  go_upto_region 1 with (fail)
  go_cut [19] (fun v19 wc => ∃ (kq : Nat) (x19_4 : Bool), v19 = .bool x19_4 ∧ Aside0 (decorumlaw08_FeedOrder.j0 kq a0 l1 a2 a3 x19_4 = some r) ∧ Aside0 (kq ≤ k) ∧ Aside0 (Below w.heap.size w wc))
  case first =>
    have H := HC5.out
    clear HC5
    replace H := Option.bind_eq_some_iff.mp H
    obtain ⟨t187, A60, H⟩ := H
    replace H : (if t187 = true then (decorumlaw08_FeedOrder.j0 k a0 l1 a2 a3 (decide ((a2.size : Int) > 300))) else (decorumlaw08_FeedOrder.j0 k a0 l1 a2 a3 true)) = some r := H
    have A6 := Aside0.mk A60
    clear A60
    by_cases c7 : t187 = true
    · subst c7
      have H1 : (decorumlaw08_FeedOrder.j0 k a0 l1 a2 a3 (decide ((a2.size : Int) > 300))) = some r := by rw [if_pos rfl] at H; exact H
      clear H
      have H := H1
      clear H1
      have H' := Aside0.mk H
      clear H
      go_wp2_with (first | ((with_reducible refine gate_callee (f := 8) rfl ?_); refine goesL_ (some 13) rfl rfl Tryz.func8 (by kernel_rfl) rfl #[.slice A1 l1.length c1] rfl (by (try simp only [List.map_toArray, List.map_cons, List.map_nil]); first | done | rfl | (simp only [List.length_drop, List.length_take]; rfl)) ?_; (with_reducible refine (decorumlaw08_small.calls k _ _ l1 true _ ?side1 ?side2 A6.out).mono ?_); (case side1 => repeat (first | exact (Kd.C_below HR1.out HB.out) | (with_reducible refine Kd.C_alloc ?_ _) | (with_reducible refine Kd.C_drewN ?_ _) | (with_reducible refine Kd.C_drew ?_))); (case side2 => exact HC1.out); rintro e w' ⟨rfl, ⟨nd, rfl⟩⟩; refine ⟨_, rfl, ?_⟩))
      go_meet
      case rel => exact ⟨_, (decide ((a2.size : Int) > 300)), (by first | rfl | (simp; done) | (simp [*]; done)), H', ⟨by first | omega | exact Nat.le_refl _⟩, ⟨by repeat (first | (with_reducible first | exact HB.out | apply below_alloc | apply pw_below_drewN | apply below_drew1) | exact HB.out)⟩⟩
    · replace c7 := Bool.eq_false_iff.mpr c7
      subst c7
      have H1 : (decorumlaw08_FeedOrder.j0 k a0 l1 a2 a3 true) = some r := by rw [if_neg (show ¬ (false = true) by decide)] at H; exact H
      clear H
      have H := H1
      clear H1
      have H' := Aside0.mk H
      clear H
      go_wp2_with (first | ((with_reducible refine gate_callee (f := 8) rfl ?_); refine goesL_ (some 13) rfl rfl Tryz.func8 (by kernel_rfl) rfl #[.slice A1 l1.length c1] rfl (by (try simp only [List.map_toArray, List.map_cons, List.map_nil]); first | done | rfl | (simp only [List.length_drop, List.length_take]; rfl)) ?_; (with_reducible refine (decorumlaw08_small.calls k _ _ l1 false _ ?side1 ?side2 A6.out).mono ?_); (case side1 => repeat (first | exact (Kd.C_below HR1.out HB.out) | (with_reducible refine Kd.C_alloc ?_ _) | (with_reducible refine Kd.C_drewN ?_ _) | (with_reducible refine Kd.C_drew ?_))); (case side2 => exact HC1.out); rintro e w' ⟨rfl, ⟨nd, rfl⟩⟩; refine ⟨_, rfl, ?_⟩))
      go_meet
      case rel => exact ⟨_, (true), (by first | rfl | (simp; done) | (simp [*]; done)), H', ⟨by first | omega | exact Nat.le_refl _⟩, ⟨by repeat (first | (with_reducible first | exact HB.out | apply below_alloc | apply pw_below_drewN | apply below_drew1) | exact HB.out)⟩⟩
  case rest =>
    clear HC5
    try clear c1
    try clear p2
    try clear c6
    try clear c7
    obtain ⟨kq, x19_4, rfl, HA, HJ4, HB⟩ := hcut
    cases kq with
    | zero => exact absurd HA.out (by simp [decorumlaw08_FeedOrder.j0])
    | succ kj4 =>
      have H := HA.out
      clear HA
      simp only [decorumlaw08_FeedOrder.j0] at H
      by_cases c8 : x19_4 = true
      · subst c8
        have H1 : ((decorumlaw08_awake.f kj4).bind fun t188 => (some t188)) = some r := by rw [if_pos rfl] at H; exact H
        clear H
        have H := H1
        clear H1
        replace H := Option.bind_eq_some_iff.mp H
        obtain ⟨t188, A90, H⟩ := H
        replace H : (some t188) = some r := H
        have A9 := Aside0.mk A90
        clear A90
        obtain rfl := Option.some.inj H
        go_wp2_with (first | ((with_reducible refine gate_callee (f := 9) rfl ?_); refine goesL_ (some 20) rfl rfl Tryz.func9 (by kernel_rfl) rfl #[] rfl (by (try simp only [List.map_toArray, List.map_cons, List.map_nil]); first | done | rfl | (simp only [List.length_drop, List.length_take]; rfl)) ?_; (with_reducible refine (decorumlaw08_awake.calls kj4  t188 _ ?side1 A9.out).mono ?_); (case side1 => exact HG.out.below (by repeat (first | (with_reducible first | exact HB.out | apply below_alloc | apply pw_below_drewN | apply below_drew1) | exact HB.out))); rintro e w10 ⟨rfl, hb⟩; refine ⟨_, rfl, ?_⟩; have n0_ := Aside0.mk (below_step (by repeat (first | (with_reducible first | exact HB.out | apply below_alloc | apply pw_below_drewN | apply below_drew1) | exact HB.out)) hb); clear HB; have HB := n0_; clear n0_; (try clear hb); (try clear hb2); (try clear hk); (try clear hi)))
        go_ret
        exact ⟨by first | rfl | (simp [errW_none, errW_some] <;> rfl) | (simp [*, errW_none, errW_some] <;> rfl), by repeat (first | (with_reducible first | exact HB.out | apply below_alloc | apply pw_below_drewN | apply below_drew1) | exact HB.out)⟩
      · replace c8 := Bool.eq_false_iff.mpr c8
        subst c8
        have H1 : ((some (([] : List (S36)) : List (S36))).bind fun y190 => (if y190.length + l1.length < 4398046511104 then ((some (y190 ++ l1 : List (S36))).bind fun y193 => ((some (([(⟨(⟨#[82, 101, 116, 114, 121, 45, 65, 102, 116, 101, 114]⟩ : ByteArray), a2⟩ : S36)] : List (S36)) : List (S36))).bind fun y196 => (if y193.length + y196.length < 4398046511104 then ((feed_From.f kj4 a0 (y193 ++ y196) a3).bind fun bt202 => ((feed_From.f kj4 a0 (([(⟨(⟨#[82, 101, 116, 114, 121, 45, 65, 102, 116, 101, 114]⟩ : ByteArray), a2⟩ : S36), (⟨(⟨#[68, 97, 116, 101]⟩ : ByteArray), (⟨#[48]⟩ : ByteArray)⟩ : S36)] : List (S36))) a3).bind fun bt209 => ((decorumlaw08_awake.f kj4).bind fun t213 => (if t213 = true then (if bt202.2.1 = bt209.2.1 then (some (bt202.1 == bt209.1)) else (some false)) else (some false))))) else (none)))) else (none))) = some r := by rw [if_neg (show ¬ (false = true) by decide)] at H; exact H
        clear H
        have H := H1
        clear H1
        obtain ⟨y190, hy190⟩ : ∃ y_ : List (S36), y_ = (([] : List (S36))) := ⟨_, rfl⟩
        replace H : (if y190.length + l1.length < 4398046511104 then ((some (y190 ++ l1 : List (S36))).bind fun y193 => ((some (([(⟨(⟨#[82, 101, 116, 114, 121, 45, 65, 102, 116, 101, 114]⟩ : ByteArray), a2⟩ : S36)] : List (S36)) : List (S36))).bind fun y196 => (if y193.length + y196.length < 4398046511104 then ((feed_From.f kj4 a0 (y193 ++ y196) a3).bind fun bt202 => ((feed_From.f kj4 a0 (([(⟨(⟨#[82, 101, 116, 114, 121, 45, 65, 102, 116, 101, 114]⟩ : ByteArray), a2⟩ : S36), (⟨(⟨#[68, 97, 116, 101]⟩ : ByteArray), (⟨#[48]⟩ : ByteArray)⟩ : S36)] : List (S36))) a3).bind fun bt209 => ((decorumlaw08_awake.f kj4).bind fun t213 => (if t213 = true then (if bt202.2.1 = bt209.2.1 then (some (bt202.1 == bt209.1)) else (some false)) else (some false))))) else (none)))) else (none)) = some r := by first | (rw [hy190]; with_reducible exact H) | (have H2_ := (Option.bind_some _ _).symm.trans H; rw [hy190]; with_reducible exact H2_) | (have H2_ := (Option.bind_some _ _).symm.trans H; with_reducible exact H2_) | with_reducible exact H | (rw [hy190]; exact H) | exact H
        have Ny190 := Aside0.mk hy190
        clear hy190
        by_cases c11 : y190.length + l1.length < 4398046511104
        · rw [if_pos c11] at H
          have LMc11 := Aside0.mk c11
          clear c11
          obtain ⟨y193, hy193⟩ : ∃ y_ : List (S36), y_ = (y190 ++ l1) := ⟨_, rfl⟩
          replace H : ((some (([(⟨(⟨#[82, 101, 116, 114, 121, 45, 65, 102, 116, 101, 114]⟩ : ByteArray), a2⟩ : S36)] : List (S36)) : List (S36))).bind fun y196 => (if y193.length + y196.length < 4398046511104 then ((feed_From.f kj4 a0 (y193 ++ y196) a3).bind fun bt202 => ((feed_From.f kj4 a0 (([(⟨(⟨#[82, 101, 116, 114, 121, 45, 65, 102, 116, 101, 114]⟩ : ByteArray), a2⟩ : S36), (⟨(⟨#[68, 97, 116, 101]⟩ : ByteArray), (⟨#[48]⟩ : ByteArray)⟩ : S36)] : List (S36))) a3).bind fun bt209 => ((decorumlaw08_awake.f kj4).bind fun t213 => (if t213 = true then (if bt202.2.1 = bt209.2.1 then (some (bt202.1 == bt209.1)) else (some false)) else (some false))))) else (none))) = some r := by first | (rw [hy193]; with_reducible exact H) | (have H2_ := (Option.bind_some _ _).symm.trans H; rw [hy193]; with_reducible exact H2_) | (have H2_ := (Option.bind_some _ _).symm.trans H; with_reducible exact H2_) | with_reducible exact H | (rw [hy193]; exact H) | exact H
          have Ny193 := Aside0.mk hy193
          clear hy193
          obtain ⟨y196, hy196⟩ : ∃ y_ : List (S36), y_ = (([(⟨(⟨#[82, 101, 116, 114, 121, 45, 65, 102, 116, 101, 114]⟩ : ByteArray), a2⟩ : S36)] : List (S36))) := ⟨_, rfl⟩
          replace H : (if y193.length + y196.length < 4398046511104 then ((feed_From.f kj4 a0 (y193 ++ y196) a3).bind fun bt202 => ((feed_From.f kj4 a0 (([(⟨(⟨#[82, 101, 116, 114, 121, 45, 65, 102, 116, 101, 114]⟩ : ByteArray), a2⟩ : S36), (⟨(⟨#[68, 97, 116, 101]⟩ : ByteArray), (⟨#[48]⟩ : ByteArray)⟩ : S36)] : List (S36))) a3).bind fun bt209 => ((decorumlaw08_awake.f kj4).bind fun t213 => (if t213 = true then (if bt202.2.1 = bt209.2.1 then (some (bt202.1 == bt209.1)) else (some false)) else (some false))))) else (none)) = some r := by first | (rw [hy196]; with_reducible exact H) | (have H2_ := (Option.bind_some _ _).symm.trans H; rw [hy196]; with_reducible exact H2_) | (have H2_ := (Option.bind_some _ _).symm.trans H; with_reducible exact H2_) | with_reducible exact H | (rw [hy196]; exact H) | exact H
          have Ny196 := Aside0.mk hy196
          clear hy196
          by_cases c12 : y193.length + y196.length < 4398046511104
          · rw [if_pos c12] at H
            have LMc12 := Aside0.mk c12
            clear c12
            obtain ⟨y199, hy199⟩ : ∃ y_ : List (S36), y_ = (y193 ++ y196) := ⟨_, rfl⟩
            replace H : ((feed_From.f kj4 a0 y199 a3).bind fun bt202 => ((feed_From.f kj4 a0 (([(⟨(⟨#[82, 101, 116, 114, 121, 45, 65, 102, 116, 101, 114]⟩ : ByteArray), a2⟩ : S36), (⟨(⟨#[68, 97, 116, 101]⟩ : ByteArray), (⟨#[48]⟩ : ByteArray)⟩ : S36)] : List (S36))) a3).bind fun bt209 => ((decorumlaw08_awake.f kj4).bind fun t213 => (if t213 = true then (if bt202.2.1 = bt209.2.1 then (some (bt202.1 == bt209.1)) else (some false)) else (some false))))) = some r := by first | (rw [hy199]; with_reducible exact H) | (have H2_ := (Option.bind_some _ _).symm.trans H; rw [hy199]; with_reducible exact H2_) | (have H2_ := (Option.bind_some _ _).symm.trans H; with_reducible exact H2_) | with_reducible exact H | (rw [hy199]; exact H) | exact H
            have Ny199 := Aside0.mk hy199
            clear hy199
            replace H := Option.bind_eq_some_iff.mp H
            obtain ⟨⟨t202, t203, t204⟩, A130, H⟩ := H
            replace H : ((feed_From.f kj4 a0 (([(⟨(⟨#[82, 101, 116, 114, 121, 45, 65, 102, 116, 101, 114]⟩ : ByteArray), a2⟩ : S36), (⟨(⟨#[68, 97, 116, 101]⟩ : ByteArray), (⟨#[48]⟩ : ByteArray)⟩ : S36)] : List (S36))) a3).bind fun bt209 => ((decorumlaw08_awake.f kj4).bind fun t213 => (if t213 = true then (if t203 = bt209.2.1 then (some (t202 == bt209.1)) else (some false)) else (some false)))) = some r := H
            have A13 := Aside0.mk A130
            clear A130
            obtain ⟨y206, hy206⟩ : ∃ y_ : List (S36), y_ = (([(⟨(⟨#[82, 101, 116, 114, 121, 45, 65, 102, 116, 101, 114]⟩ : ByteArray), a2⟩ : S36), (⟨(⟨#[68, 97, 116, 101]⟩ : ByteArray), (⟨#[48]⟩ : ByteArray)⟩ : S36)] : List (S36))) := ⟨_, rfl⟩
            replace H : ((feed_From.f kj4 a0 y206 a3).bind fun bt209 => ((decorumlaw08_awake.f kj4).bind fun t213 => (if t213 = true then (if t203 = bt209.2.1 then (some (t202 == bt209.1)) else (some false)) else (some false)))) = some r := by first | (rw [hy206]; with_reducible exact H) | (have H2_ := (Option.bind_some _ _).symm.trans H; rw [hy206]; with_reducible exact H2_) | (have H2_ := (Option.bind_some _ _).symm.trans H; with_reducible exact H2_) | with_reducible exact H | (rw [hy206]; exact H) | exact H
            have Ny206 := Aside0.mk hy206
            clear hy206
            replace H := Option.bind_eq_some_iff.mp H
            obtain ⟨⟨t209, t210, t211⟩, A140, H⟩ := H
            replace H : ((decorumlaw08_awake.f kj4).bind fun t213 => (if t213 = true then (if t203 = t210 then (some (t202 == t209)) else (some false)) else (some false))) = some r := H
            have A14 := Aside0.mk A140
            clear A140
            replace H := Option.bind_eq_some_iff.mp H
            obtain ⟨t213, A150, H⟩ := H
            replace H : (if t213 = true then (if t203 = t210 then (some (t202 == t209)) else (some false)) else (some false)) = some r := H
            have A15 := Aside0.mk A150
            clear A150
            by_cases c16 : t213 = true
            · subst c16
              have H1 : (if t203 = t210 then (some (t202 == t209)) else (some false)) = some r := by rw [if_pos rfl] at H; exact H
              clear H
              have H := H1
              clear H1
              by_cases c17 : t203 = t210
              · rw [if_pos c17] at H
                have c17b0 : (t203 == t210) = true := beq_iff_eq.mpr c17
                have c17b1 : (t203 != t210) = false := bne_eq_false_iff_eq.mpr c17
                clear c17
                obtain rfl := Option.some.inj H
                try go_wp2_with (first | ((with_reducible refine gate_dst (N := 9) rfl ?_); (try (refine gate_guard (by rfl) ?_; dsimp only)); refine box_event ?hg (N := 9) ?hd (cs := #[.string (⟨#[]⟩ : ByteArray), .string (⟨#[]⟩ : ByteArray)]) (t := 36) ?hr ?_; (case hd => rfl); (case hg => rfl); (case hr => first | (go_simp; done) | (go_simp; rfl)); intro gb189 hg w18 hbox hb; have n0_ := Aside0.mk (below_step (by repeat (first | (with_reducible first | exact HB.out | apply below_alloc | apply pw_below_drewN | apply below_drew1) | exact HB.out)) hb); have n1_ := Aside0.mk (hbox); have n2_ := Aside0.mk ((by rw [hg]; exact (below_size (by repeat (first | (with_reducible first | exact HB.out | apply below_alloc | apply pw_below_drewN | apply below_drew1) | exact HB.out))) : w.heap.size ≤ gb189)); have n3_ := Aside0.mk ((by rw [hg]; exact (below_size (by repeat (first | (with_reducible first | exact HB.out | apply below_alloc | apply pw_below_drewN | apply below_drew1) | exact HB.out))) : w.heap.size ≤ gb189)); clear HB; have HB := n0_; have BK189 := n1_; have GW189 := n2_; have GE189 := n3_; clear n0_ n1_ n2_ n3_; clear hb hbox hg; have hcz19_0 : w18.cell? ⟨gb189, 0, none⟩ = some (.string (⟨#[]⟩ : ByteArray)) := (blk_cell BK189.out 0).trans rfl; have hcz19_1 : w18.cell? ⟨gb189, 1, none⟩ = some (.string (⟨#[]⟩ : ByteArray)) := (blk_cell BK189.out 1).trans rfl; have hfz19_0 := blk_frozen BK189.out 0; have hfz19_1 := blk_frozen BK189.out 1))
                have n0_ : Aside0 (((w18.setCell ⟨gb189, 0, none⟩ (.string (⟨#[82, 101, 116, 114, 121, 45, 65, 102, 116, 101, 114]⟩ : ByteArray))).setCell ⟨gb189, 1, none⟩ (.string a2)).heap[gb189]? = some (.cells #[.string (⟨#[82, 101, 116, 114, 121, 45, 65, 102, 116, 101, 114]⟩ : ByteArray), .string a2] 36 (0, 0))) := ⟨by (with_reducible repeat (first | refine blk_drewN ?_ _ | refine blk_drew ?_ | refine blk_alloc ?_ _)); refine blk_put (cs := #[.string (⟨#[82, 101, 116, 114, 121, 45, 65, 102, 116, 101, 114]⟩ : ByteArray), .string (⟨#[]⟩ : ByteArray)]) ?_ 1 _ rfl; (with_reducible repeat (first | refine blk_drewN ?_ _ | refine blk_drew ?_ | refine blk_alloc ?_ _)); refine blk_put (cs := #[.string (⟨#[]⟩ : ByteArray), .string (⟨#[]⟩ : ByteArray)]) ?_ 0 _ rfl; (with_reducible repeat (first | refine blk_drewN ?_ _ | refine blk_drew ?_ | refine blk_alloc ?_ _)); exact BK189.out⟩
                have n1_ : Aside0 (Below w.heap.size w ((w18.setCell ⟨gb189, 0, none⟩ (.string (⟨#[82, 101, 116, 114, 121, 45, 65, 102, 116, 101, 114]⟩ : ByteArray))).setCell ⟨gb189, 1, none⟩ (.string a2))) := ⟨by repeat (first | (with_reducible first | exact HB.out | apply below_alloc | apply pw_below_drewN | apply below_drew1 | refine below_set ?_ GE189.out) | exact HB.out)⟩
                (try clear BK189)
                (try clear HB)
                generalize ((w18.setCell ⟨gb189, 0, none⟩ (.string (⟨#[82, 101, 116, 114, 121, 45, 65, 102, 116, 101, 114]⟩ : ByteArray))).setCell ⟨gb189, 1, none⟩ (.string a2)) = w20 at n0_ n1_ ⊢
                have BK189 := n0_
                have HB := n1_
                clear n0_ n1_
                have n0_ := Aside0.mk (blk_drew BK189.out)
                have n1_ := Aside0.mk (below_drew1 HB.out)
                clear BK189
                clear HB
                have BK189 := n0_
                have HB := n1_
                clear n0_ n1_
                refine start_ (n := 11) (S := fun w' => w'.cell? ⟨gb189, 0, none⟩ = some (.string (⟨#[82, 101, 116, 114, 121, 45, 65, 102, 116, 101, 114]⟩ : ByteArray)) ∧ w'.cell? ⟨gb189, 1, none⟩ = some (.string a2)) (ds := []) #[false, false, false, false, false, false, false, false, false, false, false] (by kernel_rfl) rfl rfl ⟨(blk_cell BK189.out 0).trans rfl, (blk_cell BK189.out 1).trans rfl⟩ (fun hHeld => ?_); refine with_tabW decorumlaw08_FeedOrder.tab4 decorumlaw08_FeedOrder.bits4 (fun HT_ HW_ => ?_)
                generalize w20.drew = w21 at BK189 HB hHeld ⊢
                refine pure_ (i := 0) (N := some 23) (v := ?_) (a' := ?_) #[true, false, false, false, false, false, false, false, false, false, false] rfl rfl (any_of HT_.out (by kernel_rfl)) (fun _ _ _ h => h) (Or.inl ⟨by rfl, ?_⟩) ?_ ?_
                rotate_left
                · intro w'
                  go_simp
                  with_reducible rfl
                rotate_left
                · simp only [Act.put, List.setIfInBounds_toArray, List.set_cons_zero, List.set_cons_succ, i64_w, i32_w]
                  rfl
                refine pure_ (i := 2) (N := some 25) (v := ?_) (a' := ?_) #[true, false, true, false, false, false, false, false, false, false, false] rfl rfl (any_of HT_.out (by kernel_rfl)) (fun _ _ _ h => h) (Or.inl ⟨by rfl, ?_⟩) ?_ ?_
                rotate_left
                · intro w'
                  go_simp
                  with_reducible rfl
                rotate_left
                · simp only [Act.put, List.setIfInBounds_toArray, List.set_cons_zero, List.set_cons_succ, i64_w, i32_w]
                  rfl
                refine pure_ (i := 7) (N := some 30) (v := ?_) (a' := ?_) #[true, false, true, false, false, false, false, true, false, false, false] rfl rfl (any_of HT_.out (by kernel_rfl)) (fun _ _ _ h => h) (Or.inl ⟨by rfl, ?_⟩) ?_ ?_
                rotate_left
                · intro w'
                  go_simp
                  with_reducible rfl
                rotate_left
                · simp only [Act.put, List.setIfInBounds_toArray, List.set_cons_zero, List.set_cons_succ, i64_w, i32_w]
                  rfl
                refine take_ (i := 4) (N := some 27) (v := ?_) (a' := ?_) #[true, false, true, false, true, false, false, true, false, false, false] rfl rfl (take_ofW HT_.out HW_.out (by kernel_rfl)) (fun _ _ _ h => h) (Or.inl ⟨by rfl, ?_⟩) hHeld ?_ ?_
                rotate_left
                · rintro w' ⟨s0, s1⟩
                  go_simp
                  with_reducible rfl
                rotate_left
                · simp only [Act.put, List.setIfInBounds_toArray, List.set_cons_zero, List.set_cons_succ, i64_w, i32_w]
                  rfl
                refine join_ (σ := Value × Value × Value × Value × Nat) 1 #[true, true, true, true, true, true, true, true, true, true, false] (fun s_ => [(24, s_.1), (26, s_.2.1), (28, s_.2.2.1), (29, s_.2.2.2.1), (31, .agg #[.int .i64 t202, .int .i64 t203, .int .i64 t204]), (10, .pointer (some ⟨s_.2.2.2.2, 0, none⟩))]) (fun s_ w' => (w'.cell? ⟨gb189, 0, none⟩ = some (.string (⟨#[82, 101, 116, 114, 121, 45, 65, 102, 116, 101, 114]⟩ : ByteArray)) ∧ w'.cell? ⟨gb189, 1, none⟩ = some (.string a2)) ∧ (Kd.R k36 36 w' w.heap.size (fun k_ => some k_ ≠ (s_.2.2.2.1 : Value).ownBlock ∧ k_ ≠ gb189) s_.2.2.1 y196) ∧ (Kd.R k36 36 w' w.heap.size (fun k_ => some k_ ≠ (s_.2.2.1 : Value).ownBlock ∧ k_ ≠ gb189) s_.2.2.2.1 y199) ∧ (w'.heap[gb189]? = some (.cells #[.string (⟨#[82, 101, 116, 114, 121, 45, 65, 102, 116, 101, 114]⟩ : ByteArray), .string a2] 36 (0, 0))) ∧ (w'.heap[s_.2.2.2.2]? = some (.cells #[.int .i64 0, .int .i64 0, .int .i64 0] 29 (0, 0))) ∧ (w.heap.size ≤ s_.2.2.2.2) ∧ (w.heap.size ≤ s_.2.2.2.2) ∧ (gb189 ≠ s_.2.2.2.2) ∧ (s_.2.2.2.2 ≠ gb189) ∧ (Below w.heap.size w w')) ?_ ?_
                rotate_left
                · intro hJ1_3_5_6_8_9
                  refine join_ (σ := Value × Value × Value × Value) 2 #[true, true, true, true, true, true, true, true, true, false, false] (fun s_ => [(24, s_.1), (26, s_.2.1), (28, s_.2.2.1), (29, s_.2.2.2), (31, .agg #[.int .i64 t202, .int .i64 t203, .int .i64 t204])]) (fun s_ w' => (w'.cell? ⟨gb189, 0, none⟩ = some (.string (⟨#[82, 101, 116, 114, 121, 45, 65, 102, 116, 101, 114]⟩ : ByteArray)) ∧ w'.cell? ⟨gb189, 1, none⟩ = some (.string a2)) ∧ (Kd.R k36 36 w' w.heap.size (fun k_ => some k_ ≠ (s_.2.2.2 : Value).ownBlock ∧ k_ ≠ gb189) s_.2.2.1 y196) ∧ (Kd.R k36 36 w' w.heap.size (fun k_ => some k_ ≠ (s_.2.2.1 : Value).ownBlock ∧ k_ ≠ gb189) s_.2.2.2 y199) ∧ (w'.heap[gb189]? = some (.cells #[.string (⟨#[82, 101, 116, 114, 121, 45, 65, 102, 116, 101, 114]⟩ : ByteArray), .string a2] 36 (0, 0))) ∧ (Below w.heap.size w w')) ?_ ?_
                  rotate_left
                  · intro hJ1_3_5_6_8
                    refine join_ (σ := Value × Value × Value × Value × Nat) 2 #[true, true, true, true, true, true, true, true, false, true, false] (fun s_ => [(24, s_.1), (26, s_.2.1), (28, s_.2.2.1), (29, s_.2.2.2.1), (10, .pointer (some ⟨s_.2.2.2.2, 0, none⟩))]) (fun s_ w' => (w'.cell? ⟨gb189, 0, none⟩ = some (.string (⟨#[82, 101, 116, 114, 121, 45, 65, 102, 116, 101, 114]⟩ : ByteArray)) ∧ w'.cell? ⟨gb189, 1, none⟩ = some (.string a2)) ∧ (Kd.R k36 36 w' w.heap.size (fun k_ => some k_ ≠ (s_.2.2.2.1 : Value).ownBlock ∧ k_ ≠ gb189) s_.2.2.1 y196) ∧ (Kd.R k36 36 w' w.heap.size (fun k_ => some k_ ≠ (s_.2.2.1 : Value).ownBlock ∧ k_ ≠ gb189) s_.2.2.2.1 y199) ∧ (w'.heap[gb189]? = some (.cells #[.string (⟨#[82, 101, 116, 114, 121, 45, 65, 102, 116, 101, 114]⟩ : ByteArray), .string a2] 36 (0, 0))) ∧ (w'.heap[s_.2.2.2.2]? = some (.cells #[.int .i64 0, .int .i64 0, .int .i64 0] 29 (0, 0))) ∧ (w.heap.size ≤ s_.2.2.2.2) ∧ (w.heap.size ≤ s_.2.2.2.2) ∧ (gb189 ≠ s_.2.2.2.2) ∧ (s_.2.2.2.2 ≠ gb189) ∧ (Below w.heap.size w w')) ?_ ?_
                    rotate_left
                    · intro hJ1_3_5_6_9
                      refine join_ (σ := Value × Value × Value × Value) 3 #[true, true, true, true, true, true, true, true, false, false, false] (fun s_ => [(24, s_.1), (26, s_.2.1), (28, s_.2.2.1), (29, s_.2.2.2)]) (fun s_ w' => (w'.cell? ⟨gb189, 0, none⟩ = some (.string (⟨#[82, 101, 116, 114, 121, 45, 65, 102, 116, 101, 114]⟩ : ByteArray)) ∧ w'.cell? ⟨gb189, 1, none⟩ = some (.string a2)) ∧ (Kd.R k36 36 w' w.heap.size (fun k_ => some k_ ≠ (s_.2.2.2 : Value).ownBlock ∧ k_ ≠ gb189) s_.2.2.1 y196) ∧ (Kd.R k36 36 w' w.heap.size (fun k_ => some k_ ≠ (s_.2.2.1 : Value).ownBlock ∧ k_ ≠ gb189) s_.2.2.2 y199) ∧ (w'.heap[gb189]? = some (.cells #[.string (⟨#[82, 101, 116, 114, 121, 45, 65, 102, 116, 101, 114]⟩ : ByteArray), .string a2] 36 (0, 0))) ∧ (Below w.heap.size w w')) ?_ ?_
                      rotate_left
                      · intro hJ1_3_5_6
                        refine join_ (σ := Value × Value × Value × Nat) 3 #[true, true, true, true, true, true, false, true, false, true, false] (fun s_ => [(24, s_.1), (26, s_.2.1), (28, s_.2.2.1), (10, .pointer (some ⟨s_.2.2.2, 0, none⟩))]) (fun s_ w' => (w'.cell? ⟨gb189, 0, none⟩ = some (.string (⟨#[82, 101, 116, 114, 121, 45, 65, 102, 116, 101, 114]⟩ : ByteArray)) ∧ w'.cell? ⟨gb189, 1, none⟩ = some (.string a2)) ∧ (Kd.R k36 36 w' w.heap.size (fun k_ => some k_ ≠ (s_.2.2.1 : Value).ownBlock ∧ k_ ≠ gb189) s_.2.1 y193) ∧ (Kd.R k36 36 w' w.heap.size (fun k_ => some k_ ≠ (s_.2.1 : Value).ownBlock ∧ k_ ≠ gb189) s_.2.2.1 y196) ∧ (w'.heap[gb189]? = some (.cells #[.string (⟨#[82, 101, 116, 114, 121, 45, 65, 102, 116, 101, 114]⟩ : ByteArray), .string a2] 36 (0, 0))) ∧ (w'.heap[s_.2.2.2]? = some (.cells #[.int .i64 0, .int .i64 0, .int .i64 0] 29 (0, 0))) ∧ (w.heap.size ≤ s_.2.2.2) ∧ (w.heap.size ≤ s_.2.2.2) ∧ (gb189 ≠ s_.2.2.2) ∧ (s_.2.2.2 ≠ gb189) ∧ (Below w.heap.size w w')) ?_ ?_
                        rotate_left
                        · intro hJ1_3_5_9
                          refine join_ (σ := Value × Value × Value) 4 #[true, true, true, true, true, true, false, true, false, false, false] (fun s_ => [(24, s_.1), (26, s_.2.1), (28, s_.2.2)]) (fun s_ w' => (w'.cell? ⟨gb189, 0, none⟩ = some (.string (⟨#[82, 101, 116, 114, 121, 45, 65, 102, 116, 101, 114]⟩ : ByteArray)) ∧ w'.cell? ⟨gb189, 1, none⟩ = some (.string a2)) ∧ (Kd.R k36 36 w' w.heap.size (fun k_ => some k_ ≠ (s_.2.2 : Value).ownBlock ∧ k_ ≠ gb189) s_.2.1 y193) ∧ (Kd.R k36 36 w' w.heap.size (fun k_ => some k_ ≠ (s_.2.1 : Value).ownBlock ∧ k_ ≠ gb189) s_.2.2 y196) ∧ (w'.heap[gb189]? = some (.cells #[.string (⟨#[82, 101, 116, 114, 121, 45, 65, 102, 116, 101, 114]⟩ : ByteArray), .string a2] 36 (0, 0))) ∧ (Below w.heap.size w w')) ?_ ?_
                          rotate_left
                          · intro hJ1_3_5
                            refine join_ (σ := Value × Value × Nat) 4 #[true, true, true, true, true, false, false, true, false, true, false] (fun s_ => [(24, s_.1), (26, s_.2.1), (10, .pointer (some ⟨s_.2.2, 0, none⟩))]) (fun s_ w' => (w'.cell? ⟨gb189, 0, none⟩ = some (.string (⟨#[82, 101, 116, 114, 121, 45, 65, 102, 116, 101, 114]⟩ : ByteArray)) ∧ w'.cell? ⟨gb189, 1, none⟩ = some (.string a2)) ∧ (Kd.R k36 36 w' w.heap.size (fun k_ => k_ ≠ gb189) s_.2.1 y193) ∧ (w'.heap[gb189]? = some (.cells #[.string (⟨#[82, 101, 116, 114, 121, 45, 65, 102, 116, 101, 114]⟩ : ByteArray), .string a2] 36 (0, 0))) ∧ (w'.heap[s_.2.2]? = some (.cells #[.int .i64 0, .int .i64 0, .int .i64 0] 29 (0, 0))) ∧ (w.heap.size ≤ s_.2.2) ∧ (w.heap.size ≤ s_.2.2) ∧ (gb189 ≠ s_.2.2) ∧ (s_.2.2 ≠ gb189) ∧ (Below w.heap.size w w')) ?_ ?_
                            rotate_left
                            · intro hJ1_3_9
                              refine join_ (σ := Value × Value × Nat) 4 #[true, true, true, false, true, true, false, true, false, true, false] (fun s_ => [(24, s_.1), (28, s_.2.1), (10, .pointer (some ⟨s_.2.2, 0, none⟩))]) (fun s_ w' => (w'.cell? ⟨gb189, 0, none⟩ = some (.string (⟨#[82, 101, 116, 114, 121, 45, 65, 102, 116, 101, 114]⟩ : ByteArray)) ∧ w'.cell? ⟨gb189, 1, none⟩ = some (.string a2)) ∧ (Kd.R k36 36 w' w.heap.size (fun k_ => some k_ ≠ (s_.2.1 : Value).ownBlock ∧ k_ ≠ gb189) s_.1 y190) ∧ (Kd.R k36 36 w' w.heap.size (fun k_ => some k_ ≠ (s_.1 : Value).ownBlock ∧ k_ ≠ gb189) s_.2.1 y196) ∧ (w'.heap[gb189]? = some (.cells #[.string (⟨#[82, 101, 116, 114, 121, 45, 65, 102, 116, 101, 114]⟩ : ByteArray), .string a2] 36 (0, 0))) ∧ (w'.heap[s_.2.2]? = some (.cells #[.int .i64 0, .int .i64 0, .int .i64 0] 29 (0, 0))) ∧ (w.heap.size ≤ s_.2.2) ∧ (w.heap.size ≤ s_.2.2) ∧ (gb189 ≠ s_.2.2) ∧ (s_.2.2 ≠ gb189) ∧ (Below w.heap.size w w')) ?_ ?_
                              rotate_left
                              · intro hJ1_5_9
                                refine join_ (σ := Value × Value) 5 #[true, true, true, true, true, false, false, true, false, false, false] (fun s_ => [(24, s_.1), (26, s_.2)]) (fun s_ w' => (w'.cell? ⟨gb189, 0, none⟩ = some (.string (⟨#[82, 101, 116, 114, 121, 45, 65, 102, 116, 101, 114]⟩ : ByteArray)) ∧ w'.cell? ⟨gb189, 1, none⟩ = some (.string a2)) ∧ (Kd.R k36 36 w' w.heap.size (fun k_ => k_ ≠ gb189) s_.2 y193) ∧ (w'.heap[gb189]? = some (.cells #[.string (⟨#[82, 101, 116, 114, 121, 45, 65, 102, 116, 101, 114]⟩ : ByteArray), .string a2] 36 (0, 0))) ∧ (Below w.heap.size w w')) ?_ ?_
                                rotate_left
                                · intro hJ1_3
                                  refine join_ (σ := Value × Value) 5 #[true, true, true, false, true, true, false, true, false, false, false] (fun s_ => [(24, s_.1), (28, s_.2)]) (fun s_ w' => (w'.cell? ⟨gb189, 0, none⟩ = some (.string (⟨#[82, 101, 116, 114, 121, 45, 65, 102, 116, 101, 114]⟩ : ByteArray)) ∧ w'.cell? ⟨gb189, 1, none⟩ = some (.string a2)) ∧ (Kd.R k36 36 w' w.heap.size (fun k_ => some k_ ≠ (s_.2 : Value).ownBlock ∧ k_ ≠ gb189) s_.1 y190) ∧ (Kd.R k36 36 w' w.heap.size (fun k_ => some k_ ≠ (s_.1 : Value).ownBlock ∧ k_ ≠ gb189) s_.2 y196) ∧ (w'.heap[gb189]? = some (.cells #[.string (⟨#[82, 101, 116, 114, 121, 45, 65, 102, 116, 101, 114]⟩ : ByteArray), .string a2] 36 (0, 0))) ∧ (Below w.heap.size w w')) ?_ ?_
                                  rotate_left
                                  · intro hJ1_5
                                    refine join_ (σ := Value × Nat) 5 #[true, true, true, false, true, false, false, true, false, true, false] (fun s_ => [(24, s_.1), (10, .pointer (some ⟨s_.2, 0, none⟩))]) (fun s_ w' => (w'.cell? ⟨gb189, 0, none⟩ = some (.string (⟨#[82, 101, 116, 114, 121, 45, 65, 102, 116, 101, 114]⟩ : ByteArray)) ∧ w'.cell? ⟨gb189, 1, none⟩ = some (.string a2)) ∧ (Kd.R k36 36 w' w.heap.size (fun k_ => k_ ≠ gb189) s_.1 y190) ∧ (w'.heap[gb189]? = some (.cells #[.string (⟨#[82, 101, 116, 114, 121, 45, 65, 102, 116, 101, 114]⟩ : ByteArray), .string a2] 36 (0, 0))) ∧ (w'.heap[s_.2]? = some (.cells #[.int .i64 0, .int .i64 0, .int .i64 0] 29 (0, 0))) ∧ (w.heap.size ≤ s_.2) ∧ (w.heap.size ≤ s_.2) ∧ (gb189 ≠ s_.2) ∧ (s_.2 ≠ gb189) ∧ (Below w.heap.size w w')) ?_ ?_
                                    rotate_left
                                    · intro hJ1_9
                                      refine join_ (σ := Value × Nat) 5 #[true, false, true, false, true, true, false, true, false, true, false] (fun s_ => [(28, s_.1), (10, .pointer (some ⟨s_.2, 0, none⟩))]) (fun s_ w' => (w'.cell? ⟨gb189, 0, none⟩ = some (.string (⟨#[82, 101, 116, 114, 121, 45, 65, 102, 116, 101, 114]⟩ : ByteArray)) ∧ w'.cell? ⟨gb189, 1, none⟩ = some (.string a2)) ∧ (Kd.R k36 36 w' w.heap.size (fun k_ => k_ ≠ gb189) s_.1 y196) ∧ (w'.heap[gb189]? = some (.cells #[.string (⟨#[82, 101, 116, 114, 121, 45, 65, 102, 116, 101, 114]⟩ : ByteArray), .string a2] 36 (0, 0))) ∧ (w'.heap[s_.2]? = some (.cells #[.int .i64 0, .int .i64 0, .int .i64 0] 29 (0, 0))) ∧ (w.heap.size ≤ s_.2) ∧ (w.heap.size ≤ s_.2) ∧ (gb189 ≠ s_.2) ∧ (s_.2 ≠ gb189) ∧ (Below w.heap.size w w')) ?_ ?_
                                      rotate_left
                                      · intro hJ5_9
                                        refine join_ (σ := Value) 6 #[true, true, true, false, true, false, false, true, false, false, false] (fun s_ => [(24, s_)]) (fun s_ w' => (w'.cell? ⟨gb189, 0, none⟩ = some (.string (⟨#[82, 101, 116, 114, 121, 45, 65, 102, 116, 101, 114]⟩ : ByteArray)) ∧ w'.cell? ⟨gb189, 1, none⟩ = some (.string a2)) ∧ (Kd.R k36 36 w' w.heap.size (fun k_ => k_ ≠ gb189) s_ y190) ∧ (w'.heap[gb189]? = some (.cells #[.string (⟨#[82, 101, 116, 114, 121, 45, 65, 102, 116, 101, 114]⟩ : ByteArray), .string a2] 36 (0, 0))) ∧ (Below w.heap.size w w')) ?_ ?_
                                        rotate_left
                                        · intro hJ1
                                          refine join_ (σ := Value) 6 #[true, false, true, false, true, true, false, true, false, false, false] (fun s_ => [(28, s_)]) (fun s_ w' => (w'.cell? ⟨gb189, 0, none⟩ = some (.string (⟨#[82, 101, 116, 114, 121, 45, 65, 102, 116, 101, 114]⟩ : ByteArray)) ∧ w'.cell? ⟨gb189, 1, none⟩ = some (.string a2)) ∧ (Kd.R k36 36 w' w.heap.size (fun k_ => k_ ≠ gb189) s_ y196) ∧ (w'.heap[gb189]? = some (.cells #[.string (⟨#[82, 101, 116, 114, 121, 45, 65, 102, 116, 101, 114]⟩ : ByteArray), .string a2] 36 (0, 0))) ∧ (Below w.heap.size w w')) ?_ ?_
                                          rotate_left
                                          · intro hJ5
                                            refine join_ (σ := Nat) 6 #[true, false, true, false, true, false, false, true, false, true, false] (fun s_ => [(10, .pointer (some ⟨s_, 0, none⟩))]) (fun s_ w' => (w'.cell? ⟨gb189, 0, none⟩ = some (.string (⟨#[82, 101, 116, 114, 121, 45, 65, 102, 116, 101, 114]⟩ : ByteArray)) ∧ w'.cell? ⟨gb189, 1, none⟩ = some (.string a2)) ∧ (w'.heap[gb189]? = some (.cells #[.string (⟨#[82, 101, 116, 114, 121, 45, 65, 102, 116, 101, 114]⟩ : ByteArray), .string a2] 36 (0, 0))) ∧ (w'.heap[s_]? = some (.cells #[.int .i64 0, .int .i64 0, .int .i64 0] 29 (0, 0))) ∧ (w.heap.size ≤ s_) ∧ (w.heap.size ≤ s_) ∧ (gb189 ≠ s_) ∧ (s_ ≠ gb189) ∧ (Below w.heap.size w w')) ?_ ?_
                                            rotate_left
                                            · intro hJ9
                                              refine three_ (i := 1) (j := 5) (k := 9) (Ni := some 24) (Nj := some 28) (Nk := some 10) #[true, true, true, false, true, false, false, true, false, false, false] #[true, false, true, false, true, true, false, true, false, false, false] #[true, false, true, false, true, false, false, true, false, true, false] rfl rfl rfl rfl rfl rfl (three_of HT_.out (by kernel_rfl)) (by decide) (by decide) (by decide) (fun K hK => ?_) (fun K hK => ?_) (fun K hK => ?_)
                                              · skip
                                                refine Kd.R_lit_step k36 _ 36 ?hg (N := 24) ?hd (xs := ([] : List (S36))) (inner := []) (ok := fun _ => True) (okp := fun _ => True) ?hr ?hp (fun _ hk => hk) trivial (Below.refl _ _) (Nat.le_refl _) (by simp) ?_; (case hd => rfl); (case hg => rfl); (case hr => first | (go_simp; done) | (go_simp; rfl)); (case hp => exact (Reps.none _ _))
                                                intro v191 w22 ho23 hb hg_ hnew_
                                                clear hg_ hnew_
                                                (first | rw [← Ny190.out] at ho23 | (simp only [Int.reduceToNat] at ho23; rw [← Ny190.out] at ho23))
                                                have n0_ := Aside0.mk (Kd.R_lower (Kd.R_newB ho23 (g := gb189) (o := .cells #[.string (⟨#[82, 101, 116, 114, 121, 45, 65, 102, 116, 101, 114]⟩ : ByteArray), .string a2] 36 (0, 0)) (by (with_reducible repeat (first | refine blk_drewN ?_ _ | refine blk_drew ?_ | refine blk_alloc ?_ _)); exact BK189.out)) (below_size (by repeat (first | (with_reducible first | exact HB.out | apply below_alloc | apply pw_below_drewN | apply below_drew1 | refine below_set ?_ GE189.out) | exact HB.out))))
                                                have n1_ := Aside0.mk (blk_below (g := gb189) (o := .cells #[.string (⟨#[82, 101, 116, 114, 121, 45, 65, 102, 116, 101, 114]⟩ : ByteArray), .string a2] 36 (0, 0)) (by (with_reducible repeat (first | refine blk_drewN ?_ _ | refine blk_drew ?_ | refine blk_alloc ?_ _)); exact BK189.out) hb)
                                                have n2_ := Aside0.mk (below_step (by repeat (first | (with_reducible first | exact HB.out | apply below_alloc | apply pw_below_drewN | apply below_drew1 | refine below_set ?_ GE189.out) | exact HB.out)) hb)
                                                clear BK189
                                                clear HB
                                                have HO192 := n0_
                                                have BK189 := n1_
                                                have HB := n2_
                                                clear n0_ n1_ n2_
                                                clear hb ho23
                                                refine hK.out _ _ ⟨(blk_cell BK189.out 0).trans rfl, (blk_cell BK189.out 1).trans rfl⟩ (fun hHeld => ?_)
                                                clear hK K
                                                refine norm_ (a' := ?_) ?_ ?_
                                                rotate_left
                                                · show Act.put _ (some 24) _ = _
                                                  simp only [Act.put, List.setIfInBounds_toArray, List.set_cons_zero, List.set_cons_succ, i64_w, i32_w]
                                                  rfl
                                                exact norm_ (by first | (simp only [putAll, Act.put, List.setIfInBounds_toArray, List.set_cons_zero, List.set_cons_succ]; done) | (simp only [putAll, Act.put, List.setIfInBounds_toArray, List.set_cons_zero, List.set_cons_succ]; rfl)) (hJ1 (v191) _ ⟨hHeld, (by (with_reducible repeat (first | apply Kd.R_alloc | apply Kd.R_drewN | apply Kd.R_drew)); exact Kd.R_mono HO192.out (fun _ hk => hk.2)), (by (with_reducible repeat (first | refine blk_drewN ?_ _ | refine blk_drew ?_ | refine blk_alloc ?_ _)); exact BK189.out), (by repeat (first | (with_reducible first | exact HB.out | apply below_alloc | apply pw_below_drewN | apply below_drew1 | refine below_set ?_ GE189.out) | exact HB.out))⟩)
                                              · skip
                                                refine Kd.R_lit_step k36 _ 36 ?hg (N := 28) ?hd (xs := ([(⟨(⟨#[82, 101, 116, 114, 121, 45, 65, 102, 116, 101, 114]⟩ : ByteArray), a2⟩ : S36)] : List (S36))) (inner := [.string (⟨#[82, 101, 116, 114, 121, 45, 65, 102, 116, 101, 114]⟩ : ByteArray), .string a2]) (ok := fun _ => True) (okp := fun _ => True) ?hr ?hp (fun _ hk => hk) trivial (Below.refl _ _) (Nat.le_refl _) (by simp) ?_; (case hd => rfl); (case hg => rfl); (case hr => first | (go_simp; done) | (go_simp; rfl)); (case hp => exact (Reps.c2 (show Kd.M k36 _ _ _ (⟨(⟨#[82, 101, 116, 114, 121, 45, 65, 102, 116, 101, 114]⟩ : ByteArray), a2⟩ : S36) [.string (⟨#[82, 101, 116, 114, 121, 45, 65, 102, 116, 101, 114]⟩ : ByteArray), .string a2] from (k36_mkM _ _ _ (⟨(⟨#[82, 101, 116, 114, 121, 45, 65, 102, 116, 101, 114]⟩ : ByteArray), a2⟩ : S36) )) (Reps.none _ _)))
                                                intro v197 w22 ho23 hb hg_ hnew_
                                                clear hg_ hnew_
                                                (first | rw [← Ny196.out] at ho23 | (simp only [Int.reduceToNat] at ho23; rw [← Ny196.out] at ho23))
                                                have n0_ := Aside0.mk (Kd.R_lower (Kd.R_newB ho23 (g := gb189) (o := .cells #[.string (⟨#[82, 101, 116, 114, 121, 45, 65, 102, 116, 101, 114]⟩ : ByteArray), .string a2] 36 (0, 0)) (by (with_reducible repeat (first | refine blk_drewN ?_ _ | refine blk_drew ?_ | refine blk_alloc ?_ _)); exact BK189.out)) (below_size (by repeat (first | (with_reducible first | exact HB.out | apply below_alloc | apply pw_below_drewN | apply below_drew1 | refine below_set ?_ GE189.out) | exact HB.out))))
                                                have n1_ := Aside0.mk (blk_below (g := gb189) (o := .cells #[.string (⟨#[82, 101, 116, 114, 121, 45, 65, 102, 116, 101, 114]⟩ : ByteArray), .string a2] 36 (0, 0)) (by (with_reducible repeat (first | refine blk_drewN ?_ _ | refine blk_drew ?_ | refine blk_alloc ?_ _)); exact BK189.out) hb)
                                                have n2_ := Aside0.mk (below_step (by repeat (first | (with_reducible first | exact HB.out | apply below_alloc | apply pw_below_drewN | apply below_drew1 | refine below_set ?_ GE189.out) | exact HB.out)) hb)
                                                clear BK189
                                                clear HB
                                                have HO198 := n0_
                                                have BK189 := n1_
                                                have HB := n2_
                                                clear n0_ n1_ n2_
                                                clear hb ho23
                                                refine hK.out _ _ ⟨(blk_cell BK189.out 0).trans rfl, (blk_cell BK189.out 1).trans rfl⟩ (fun hHeld => ?_)
                                                clear hK K
                                                refine norm_ (a' := ?_) ?_ ?_
                                                rotate_left
                                                · show Act.put _ (some 28) _ = _
                                                  simp only [Act.put, List.setIfInBounds_toArray, List.set_cons_zero, List.set_cons_succ, i64_w, i32_w]
                                                  rfl
                                                exact norm_ (by first | (simp only [putAll, Act.put, List.setIfInBounds_toArray, List.set_cons_zero, List.set_cons_succ]; done) | (simp only [putAll, Act.put, List.setIfInBounds_toArray, List.set_cons_zero, List.set_cons_succ]; rfl)) (hJ5 (v197) _ ⟨hHeld, (by (with_reducible repeat (first | apply Kd.R_alloc | apply Kd.R_drewN | apply Kd.R_drew)); exact Kd.R_mono HO198.out (fun _ hk => hk.2)), (by (with_reducible repeat (first | refine blk_drewN ?_ _ | refine blk_drew ?_ | refine blk_alloc ?_ _)); exact BK189.out), (by repeat (first | (with_reducible first | exact HB.out | apply below_alloc | apply pw_below_drewN | apply below_drew1 | refine below_set ?_ GE189.out) | exact HB.out))⟩)
                                              · skip
                                                refine box_step ?hg (N := 10) ?hd (cs := #[.int .i64 0, .int .i64 0, .int .i64 0]) (t := 29) ?hr ?_; (case hd => rfl); (case hg => rfl); (case hr => first | (go_simp; done) | (go_simp; rfl))
                                                intro gb205 hg w22 hbox hb
                                                have n0_ := Aside0.mk (blk_below (g := gb189) (o := .cells #[.string (⟨#[82, 101, 116, 114, 121, 45, 65, 102, 116, 101, 114]⟩ : ByteArray), .string a2] 36 (0, 0)) (by (with_reducible repeat (first | refine blk_drewN ?_ _ | refine blk_drew ?_ | refine blk_alloc ?_ _)); exact BK189.out) hb)
                                                have n1_ := Aside0.mk (below_step (by repeat (first | (with_reducible first | exact HB.out | apply below_alloc | apply pw_below_drewN | apply below_drew1 | refine below_set ?_ GE189.out) | exact HB.out)) hb)
                                                have n2_ := Aside0.mk (hbox)
                                                have n3_ := Aside0.mk ((by rw [hg]; exact (below_size (by repeat (first | (with_reducible first | exact HB.out | apply below_alloc | apply pw_below_drewN | apply below_drew1 | refine below_set ?_ GE189.out) | exact HB.out))) : w.heap.size ≤ gb205))
                                                have n4_ := Aside0.mk ((by rw [hg]; exact (below_size (by repeat (first | (with_reducible first | exact HB.out | apply below_alloc | apply pw_below_drewN | apply below_drew1 | refine below_set ?_ GE189.out) | exact HB.out))) : w.heap.size ≤ gb205))
                                                have n5_ := Aside0.mk ((by rw [hg]; exact Nat.ne_of_lt (blk_lt (g := gb189) (o := .cells #[.string (⟨#[82, 101, 116, 114, 121, 45, 65, 102, 116, 101, 114]⟩ : ByteArray), .string a2] 36 (0, 0)) (by (with_reducible repeat (first | refine blk_drewN ?_ _ | refine blk_drew ?_ | refine blk_alloc ?_ _)); exact BK189.out)) : gb189 ≠ gb205))
                                                have n6_ := Aside0.mk ((by rw [hg]; exact Nat.ne_of_gt (blk_lt (g := gb189) (o := .cells #[.string (⟨#[82, 101, 116, 114, 121, 45, 65, 102, 116, 101, 114]⟩ : ByteArray), .string a2] 36 (0, 0)) (by (with_reducible repeat (first | refine blk_drewN ?_ _ | refine blk_drew ?_ | refine blk_alloc ?_ _)); exact BK189.out)) : gb205 ≠ gb189))
                                                clear BK189
                                                clear HB
                                                have BK189 := n0_
                                                have HB := n1_
                                                have BK205 := n2_
                                                have GW205 := n3_
                                                have GE205 := n4_
                                                have NB189_205 := n5_
                                                have NB205_189 := n6_
                                                clear n0_ n1_ n2_ n3_ n4_ n5_ n6_
                                                clear hb hbox hg
                                                refine hK.out _ _ ⟨(blk_cell BK189.out 0).trans rfl, (blk_cell BK189.out 1).trans rfl⟩ (fun hHeld => ?_)
                                                clear hK K
                                                refine norm_ (a' := ?_) ?_ ?_
                                                rotate_left
                                                · show Act.put _ (some 10) _ = _
                                                  simp only [Act.put, List.setIfInBounds_toArray, List.set_cons_zero, List.set_cons_succ, i64_w, i32_w]
                                                  rfl
                                                exact norm_ (by first | (simp only [putAll, Act.put, List.setIfInBounds_toArray, List.set_cons_zero, List.set_cons_succ]; done) | (simp only [putAll, Act.put, List.setIfInBounds_toArray, List.set_cons_zero, List.set_cons_succ]; rfl)) (hJ9 (gb205) _ ⟨hHeld, (by (with_reducible repeat (first | refine blk_drewN ?_ _ | refine blk_drew ?_ | refine blk_alloc ?_ _)); exact BK189.out), (by (with_reducible repeat (first | refine blk_drewN ?_ _ | refine blk_drew ?_ | refine blk_alloc ?_ _)); exact BK205.out), GW205.out, GE205.out, NB189_205.out, NB205_189.out, (by repeat (first | (with_reducible first | exact HB.out | apply below_alloc | apply pw_below_drewN | apply below_drew1 | refine below_set ?_ GE189.out | refine below_set ?_ GE205.out) | exact HB.out))⟩)
                                            · skip
                                              rintro gb205 w23 ⟨hS_, h0_, h1_, h2_, h3_, h4_, h5_, h6_⟩
                                              have n0_ : Aside0 (w23.heap[gb189]? = some (.cells #[.string (⟨#[82, 101, 116, 114, 121, 45, 65, 102, 116, 101, 114]⟩ : ByteArray), .string a2] 36 (0, 0))) := ⟨h0_⟩
                                              have n1_ : Aside0 (w23.heap[gb205]? = some (.cells #[.int .i64 0, .int .i64 0, .int .i64 0] 29 (0, 0))) := ⟨h1_⟩
                                              have n2_ : Aside0 (w.heap.size ≤ gb205) := ⟨h2_⟩
                                              have n3_ : Aside0 (w.heap.size ≤ gb205) := ⟨h3_⟩
                                              have n4_ : Aside0 (gb189 ≠ gb205) := ⟨h4_⟩
                                              have n5_ : Aside0 (gb205 ≠ gb189) := ⟨h5_⟩
                                              have n6_ : Aside0 (Below w.heap.size w w23) := ⟨h6_⟩
                                              clear BK189
                                              clear HB
                                              clear h0_ h1_ h2_ h3_ h4_ h5_ h6_
                                              have BK189 := n0_
                                              have BK205 := n1_
                                              have GW205 := n2_
                                              have GE205 := n3_
                                              have NB189_205 := n4_
                                              have NB205_189 := n5_
                                              have HB := n6_
                                              clear n0_ n1_ n2_ n3_ n4_ n5_ n6_
                                              have hHeld : w23.cell? ⟨gb189, 0, none⟩ = some (.string (⟨#[82, 101, 116, 114, 121, 45, 65, 102, 116, 101, 114]⟩ : ByteArray)) ∧ w23.cell? ⟨gb189, 1, none⟩ = some (.string a2) := hS_
                                              refine norm_ (a' := ?_) ?_ ?_
                                              rotate_left
                                              · simp only [putAll, Act.put, List.setIfInBounds_toArray, List.set_cons_zero, List.set_cons_succ]
                                                rfl
                                              refine two_ (i := 1) (j := 5) (Ni := some 24) (Nj := some 28) #[true, true, true, false, true, false, false, true, false, true, false] #[true, false, true, false, true, true, false, true, false, true, false] rfl rfl rfl rfl (two_of HT_.out (by kernel_rfl)) (by decide) (by decide) (fun K hK => ?_) (fun K hK => ?_)
                                              · skip
                                                refine Kd.R_lit_step k36 _ 36 ?hg (N := 24) ?hd (xs := ([] : List (S36))) (inner := []) (ok := fun _ => True) (okp := fun _ => True) ?hr ?hp (fun _ hk => hk) trivial (Below.refl _ _) (Nat.le_refl _) (by simp) ?_; (case hd => rfl); (case hg => rfl); (case hr => first | (go_simp; done) | (go_simp; rfl)); (case hp => exact (Reps.none _ _))
                                                intro v191 w24 ho25 hb hg_ hnew_
                                                clear hg_ hnew_
                                                (first | rw [← Ny190.out] at ho25 | (simp only [Int.reduceToNat] at ho25; rw [← Ny190.out] at ho25))
                                                have n0_ := Aside0.mk (Kd.R_lower (Kd.R_newB ho25 (g := gb189) (o := .cells #[.string (⟨#[82, 101, 116, 114, 121, 45, 65, 102, 116, 101, 114]⟩ : ByteArray), .string a2] 36 (0, 0)) (by (with_reducible repeat (first | refine blk_drewN ?_ _ | refine blk_drew ?_ | refine blk_alloc ?_ _)); exact BK189.out)) (below_size (by repeat (first | (with_reducible first | exact HB.out | apply below_alloc | apply pw_below_drewN | apply below_drew1 | refine below_set ?_ GE189.out | refine below_set ?_ GE205.out) | exact HB.out))))
                                                have n1_ := Aside0.mk (blk_below (g := gb189) (o := .cells #[.string (⟨#[82, 101, 116, 114, 121, 45, 65, 102, 116, 101, 114]⟩ : ByteArray), .string a2] 36 (0, 0)) (by (with_reducible repeat (first | refine blk_drewN ?_ _ | refine blk_drew ?_ | refine blk_alloc ?_ _)); exact BK189.out) hb)
                                                have n2_ := Aside0.mk (blk_below (g := gb205) (o := .cells #[.int .i64 0, .int .i64 0, .int .i64 0] 29 (0, 0)) (by (with_reducible repeat (first | refine blk_drewN ?_ _ | refine blk_drew ?_ | refine blk_alloc ?_ _)); exact BK205.out) hb)
                                                have n3_ := Aside0.mk (below_step (by repeat (first | (with_reducible first | exact HB.out | apply below_alloc | apply pw_below_drewN | apply below_drew1 | refine below_set ?_ GE189.out | refine below_set ?_ GE205.out) | exact HB.out)) hb)
                                                clear BK189
                                                clear BK205
                                                clear HB
                                                have HO192 := n0_
                                                have BK189 := n1_
                                                have BK205 := n2_
                                                have HB := n3_
                                                clear n0_ n1_ n2_ n3_
                                                clear hb ho25
                                                refine hK.out _ _ ⟨(blk_cell BK189.out 0).trans rfl, (blk_cell BK189.out 1).trans rfl⟩ (fun hHeld => ?_)
                                                clear hK K
                                                refine norm_ (a' := ?_) ?_ ?_
                                                rotate_left
                                                · show Act.put _ (some 24) _ = _
                                                  simp only [Act.put, List.setIfInBounds_toArray, List.set_cons_zero, List.set_cons_succ, i64_w, i32_w]
                                                  rfl
                                                exact norm_ (by first | (simp only [putAll, Act.put, List.setIfInBounds_toArray, List.set_cons_zero, List.set_cons_succ]; done) | (simp only [putAll, Act.put, List.setIfInBounds_toArray, List.set_cons_zero, List.set_cons_succ]; rfl)) (hJ1_9 (v191, gb205) _ ⟨hHeld, (by (with_reducible repeat (first | apply Kd.R_alloc | apply Kd.R_drewN | apply Kd.R_drew)); exact Kd.R_mono HO192.out (fun _ hk => hk.2)), (by (with_reducible repeat (first | refine blk_drewN ?_ _ | refine blk_drew ?_ | refine blk_alloc ?_ _)); exact BK189.out), (by (with_reducible repeat (first | refine blk_drewN ?_ _ | refine blk_drew ?_ | refine blk_alloc ?_ _)); exact BK205.out), GW205.out, GE205.out, NB189_205.out, NB205_189.out, (by repeat (first | (with_reducible first | exact HB.out | apply below_alloc | apply pw_below_drewN | apply below_drew1 | refine below_set ?_ GE189.out | refine below_set ?_ GE205.out) | exact HB.out))⟩)
                                              · skip
                                                refine Kd.R_lit_step k36 _ 36 ?hg (N := 28) ?hd (xs := ([(⟨(⟨#[82, 101, 116, 114, 121, 45, 65, 102, 116, 101, 114]⟩ : ByteArray), a2⟩ : S36)] : List (S36))) (inner := [.string (⟨#[82, 101, 116, 114, 121, 45, 65, 102, 116, 101, 114]⟩ : ByteArray), .string a2]) (ok := fun _ => True) (okp := fun _ => True) ?hr ?hp (fun _ hk => hk) trivial (Below.refl _ _) (Nat.le_refl _) (by simp) ?_; (case hd => rfl); (case hg => rfl); (case hr => first | (go_simp; done) | (go_simp; rfl)); (case hp => exact (Reps.c2 (show Kd.M k36 _ _ _ (⟨(⟨#[82, 101, 116, 114, 121, 45, 65, 102, 116, 101, 114]⟩ : ByteArray), a2⟩ : S36) [.string (⟨#[82, 101, 116, 114, 121, 45, 65, 102, 116, 101, 114]⟩ : ByteArray), .string a2] from (k36_mkM _ _ _ (⟨(⟨#[82, 101, 116, 114, 121, 45, 65, 102, 116, 101, 114]⟩ : ByteArray), a2⟩ : S36) )) (Reps.none _ _)))
                                                intro v197 w24 ho25 hb hg_ hnew_
                                                clear hg_ hnew_
                                                (first | rw [← Ny196.out] at ho25 | (simp only [Int.reduceToNat] at ho25; rw [← Ny196.out] at ho25))
                                                have n0_ := Aside0.mk (Kd.R_lower (Kd.R_newB ho25 (g := gb189) (o := .cells #[.string (⟨#[82, 101, 116, 114, 121, 45, 65, 102, 116, 101, 114]⟩ : ByteArray), .string a2] 36 (0, 0)) (by (with_reducible repeat (first | refine blk_drewN ?_ _ | refine blk_drew ?_ | refine blk_alloc ?_ _)); exact BK189.out)) (below_size (by repeat (first | (with_reducible first | exact HB.out | apply below_alloc | apply pw_below_drewN | apply below_drew1 | refine below_set ?_ GE189.out | refine below_set ?_ GE205.out) | exact HB.out))))
                                                have n1_ := Aside0.mk (blk_below (g := gb189) (o := .cells #[.string (⟨#[82, 101, 116, 114, 121, 45, 65, 102, 116, 101, 114]⟩ : ByteArray), .string a2] 36 (0, 0)) (by (with_reducible repeat (first | refine blk_drewN ?_ _ | refine blk_drew ?_ | refine blk_alloc ?_ _)); exact BK189.out) hb)
                                                have n2_ := Aside0.mk (blk_below (g := gb205) (o := .cells #[.int .i64 0, .int .i64 0, .int .i64 0] 29 (0, 0)) (by (with_reducible repeat (first | refine blk_drewN ?_ _ | refine blk_drew ?_ | refine blk_alloc ?_ _)); exact BK205.out) hb)
                                                have n3_ := Aside0.mk (below_step (by repeat (first | (with_reducible first | exact HB.out | apply below_alloc | apply pw_below_drewN | apply below_drew1 | refine below_set ?_ GE189.out | refine below_set ?_ GE205.out) | exact HB.out)) hb)
                                                clear BK189
                                                clear BK205
                                                clear HB
                                                have HO198 := n0_
                                                have BK189 := n1_
                                                have BK205 := n2_
                                                have HB := n3_
                                                clear n0_ n1_ n2_ n3_
                                                clear hb ho25
                                                refine hK.out _ _ ⟨(blk_cell BK189.out 0).trans rfl, (blk_cell BK189.out 1).trans rfl⟩ (fun hHeld => ?_)
                                                clear hK K
                                                refine norm_ (a' := ?_) ?_ ?_
                                                rotate_left
                                                · show Act.put _ (some 28) _ = _
                                                  simp only [Act.put, List.setIfInBounds_toArray, List.set_cons_zero, List.set_cons_succ, i64_w, i32_w]
                                                  rfl
                                                exact norm_ (by first | (simp only [putAll, Act.put, List.setIfInBounds_toArray, List.set_cons_zero, List.set_cons_succ]; done) | (simp only [putAll, Act.put, List.setIfInBounds_toArray, List.set_cons_zero, List.set_cons_succ]; rfl)) (hJ5_9 (v197, gb205) _ ⟨hHeld, (by (with_reducible repeat (first | apply Kd.R_alloc | apply Kd.R_drewN | apply Kd.R_drew)); exact Kd.R_mono HO198.out (fun _ hk => hk.2)), (by (with_reducible repeat (first | refine blk_drewN ?_ _ | refine blk_drew ?_ | refine blk_alloc ?_ _)); exact BK189.out), (by (with_reducible repeat (first | refine blk_drewN ?_ _ | refine blk_drew ?_ | refine blk_alloc ?_ _)); exact BK205.out), GW205.out, GE205.out, NB189_205.out, NB205_189.out, (by repeat (first | (with_reducible first | exact HB.out | apply below_alloc | apply pw_below_drewN | apply below_drew1 | refine below_set ?_ GE189.out | refine below_set ?_ GE205.out) | exact HB.out))⟩)
                                          · skip
                                            rintro v197 w24 ⟨hS_, h0_, h1_, h2_⟩
                                            have n0_ : Aside0 (Kd.R k36 36 w24 w.heap.size (fun k_ => k_ ≠ gb189) v197 y196) := ⟨h0_⟩
                                            have n1_ : Aside0 (w24.heap[gb189]? = some (.cells #[.string (⟨#[82, 101, 116, 114, 121, 45, 65, 102, 116, 101, 114]⟩ : ByteArray), .string a2] 36 (0, 0))) := ⟨h1_⟩
                                            have n2_ : Aside0 (Below w.heap.size w w24) := ⟨h2_⟩
                                            clear BK189
                                            clear HB
                                            clear h0_ h1_ h2_
                                            have HO198 := n0_
                                            have BK189 := n1_
                                            have HB := n2_
                                            clear n0_ n1_ n2_
                                            have hHeld : w24.cell? ⟨gb189, 0, none⟩ = some (.string (⟨#[82, 101, 116, 114, 121, 45, 65, 102, 116, 101, 114]⟩ : ByteArray)) ∧ w24.cell? ⟨gb189, 1, none⟩ = some (.string a2) := hS_
                                            refine norm_ (a' := ?_) ?_ ?_
                                            rotate_left
                                            · simp only [putAll, Act.put, List.setIfInBounds_toArray, List.set_cons_zero, List.set_cons_succ]
                                              rfl
                                            refine two_ (i := 1) (j := 9) (Ni := some 24) (Nj := some 10) #[true, true, true, false, true, true, false, true, false, false, false] #[true, false, true, false, true, true, false, true, false, true, false] rfl rfl rfl rfl (two_of HT_.out (by kernel_rfl)) (by decide) (by decide) (fun K hK => ?_) (fun K hK => ?_)
                                            · skip
                                              refine Kd.R_lit_step k36 _ 36 ?hg (N := 24) ?hd (xs := ([] : List (S36))) (inner := []) (ok := fun _ => True) (okp := fun _ => True) ?hr ?hp (fun _ hk => hk) trivial (Below.refl _ _) (Nat.le_refl _) (by simp) ?_; (case hd => rfl); (case hg => rfl); (case hr => first | (go_simp; done) | (go_simp; rfl)); (case hp => exact (Reps.none _ _))
                                              intro v191 w25 ho26 hb hg_ hnew_
                                              clear hg_ hnew_
                                              (first | rw [← Ny190.out] at ho26 | (simp only [Int.reduceToNat] at ho26; rw [← Ny190.out] at ho26))
                                              have n0_ := Aside0.mk (Kd.R_elder' (by (with_reducible repeat (first | apply Kd.R_alloc | apply Kd.R_drewN | apply Kd.R_drew)); exact HO198.out) (Kd.R_base ho26) hb)
                                              have n1_ := Aside0.mk (Kd.R_lower (Kd.R_newB (Kd.R_new' ho26 (Kd.R_lt (by (with_reducible repeat (first | apply Kd.R_alloc | apply Kd.R_drewN | apply Kd.R_drew)); exact HO198.out))) (g := gb189) (o := .cells #[.string (⟨#[82, 101, 116, 114, 121, 45, 65, 102, 116, 101, 114]⟩ : ByteArray), .string a2] 36 (0, 0)) (by (with_reducible repeat (first | refine blk_drewN ?_ _ | refine blk_drew ?_ | refine blk_alloc ?_ _)); exact BK189.out)) (below_size (by repeat (first | (with_reducible first | exact HB.out | apply below_alloc | apply pw_below_drewN | apply below_drew1 | refine below_set ?_ GE189.out) | exact HB.out))))
                                              have n2_ := Aside0.mk (blk_below (g := gb189) (o := .cells #[.string (⟨#[82, 101, 116, 114, 121, 45, 65, 102, 116, 101, 114]⟩ : ByteArray), .string a2] 36 (0, 0)) (by (with_reducible repeat (first | refine blk_drewN ?_ _ | refine blk_drew ?_ | refine blk_alloc ?_ _)); exact BK189.out) hb)
                                              have n3_ := Aside0.mk (below_step (by repeat (first | (with_reducible first | exact HB.out | apply below_alloc | apply pw_below_drewN | apply below_drew1 | refine below_set ?_ GE189.out) | exact HB.out)) hb)
                                              clear HO198
                                              clear BK189
                                              clear HB
                                              have HO198 := n0_
                                              have HO192 := n1_
                                              have BK189 := n2_
                                              have HB := n3_
                                              clear n0_ n1_ n2_ n3_
                                              clear hb ho26
                                              refine hK.out _ _ ⟨(blk_cell BK189.out 0).trans rfl, (blk_cell BK189.out 1).trans rfl⟩ (fun hHeld => ?_)
                                              clear hK K
                                              refine norm_ (a' := ?_) ?_ ?_
                                              rotate_left
                                              · show Act.put _ (some 24) _ = _
                                                simp only [Act.put, List.setIfInBounds_toArray, List.set_cons_zero, List.set_cons_succ, i64_w, i32_w]
                                                rfl
                                              exact norm_ (by first | (simp only [putAll, Act.put, List.setIfInBounds_toArray, List.set_cons_zero, List.set_cons_succ]; done) | (simp only [putAll, Act.put, List.setIfInBounds_toArray, List.set_cons_zero, List.set_cons_succ]; rfl)) (hJ1_5 (v191, v197) _ ⟨hHeld, (by (with_reducible repeat (first | apply Kd.R_alloc | apply Kd.R_drewN | apply Kd.R_drew)); exact Kd.R_mono HO192.out (fun _ hk => ⟨hk.1.2, hk.2⟩)), (by (with_reducible repeat (first | apply Kd.R_alloc | apply Kd.R_drewN | apply Kd.R_drew)); exact Kd.R_mono HO198.out (fun _ hk => ⟨hk.2, hk.1⟩)), (by (with_reducible repeat (first | refine blk_drewN ?_ _ | refine blk_drew ?_ | refine blk_alloc ?_ _)); exact BK189.out), (by repeat (first | (with_reducible first | exact HB.out | apply below_alloc | apply pw_below_drewN | apply below_drew1 | refine below_set ?_ GE189.out) | exact HB.out))⟩)
                                            · skip
                                              refine box_step ?hg (N := 10) ?hd (cs := #[.int .i64 0, .int .i64 0, .int .i64 0]) (t := 29) ?hr ?_; (case hd => rfl); (case hg => rfl); (case hr => first | (go_simp; done) | (go_simp; rfl))
                                              intro gb205 hg w25 hbox hb
                                              have n0_ := Aside0.mk (Kd.R_below (by (with_reducible repeat (first | apply Kd.R_alloc | apply Kd.R_drewN | apply Kd.R_drew)); exact HO198.out) hb)
                                              have n1_ := Aside0.mk (blk_below (g := gb189) (o := .cells #[.string (⟨#[82, 101, 116, 114, 121, 45, 65, 102, 116, 101, 114]⟩ : ByteArray), .string a2] 36 (0, 0)) (by (with_reducible repeat (first | refine blk_drewN ?_ _ | refine blk_drew ?_ | refine blk_alloc ?_ _)); exact BK189.out) hb)
                                              have n2_ := Aside0.mk (below_step (by repeat (first | (with_reducible first | exact HB.out | apply below_alloc | apply pw_below_drewN | apply below_drew1 | refine below_set ?_ GE189.out) | exact HB.out)) hb)
                                              have n3_ := Aside0.mk (hbox)
                                              have n4_ := Aside0.mk ((by rw [hg]; exact (below_size (by repeat (first | (with_reducible first | exact HB.out | apply below_alloc | apply pw_below_drewN | apply below_drew1 | refine below_set ?_ GE189.out) | exact HB.out))) : w.heap.size ≤ gb205))
                                              have n5_ := Aside0.mk ((by rw [hg]; exact (below_size (by repeat (first | (with_reducible first | exact HB.out | apply below_alloc | apply pw_below_drewN | apply below_drew1 | refine below_set ?_ GE189.out) | exact HB.out))) : w.heap.size ≤ gb205))
                                              have n6_ := Aside0.mk ((by rw [hg]; exact Nat.ne_of_lt (blk_lt (g := gb189) (o := .cells #[.string (⟨#[82, 101, 116, 114, 121, 45, 65, 102, 116, 101, 114]⟩ : ByteArray), .string a2] 36 (0, 0)) (by (with_reducible repeat (first | refine blk_drewN ?_ _ | refine blk_drew ?_ | refine blk_alloc ?_ _)); exact BK189.out)) : gb189 ≠ gb205))
                                              have n7_ := Aside0.mk ((by rw [hg]; exact Nat.ne_of_gt (blk_lt (g := gb189) (o := .cells #[.string (⟨#[82, 101, 116, 114, 121, 45, 65, 102, 116, 101, 114]⟩ : ByteArray), .string a2] 36 (0, 0)) (by (with_reducible repeat (first | refine blk_drewN ?_ _ | refine blk_drew ?_ | refine blk_alloc ?_ _)); exact BK189.out)) : gb205 ≠ gb189))
                                              clear HO198
                                              clear BK189
                                              clear HB
                                              have HO198 := n0_
                                              have BK189 := n1_
                                              have HB := n2_
                                              have BK205 := n3_
                                              have GW205 := n4_
                                              have GE205 := n5_
                                              have NB189_205 := n6_
                                              have NB205_189 := n7_
                                              clear n0_ n1_ n2_ n3_ n4_ n5_ n6_ n7_
                                              clear hb hbox hg
                                              refine hK.out _ _ ⟨(blk_cell BK189.out 0).trans rfl, (blk_cell BK189.out 1).trans rfl⟩ (fun hHeld => ?_)
                                              clear hK K
                                              refine norm_ (a' := ?_) ?_ ?_
                                              rotate_left
                                              · show Act.put _ (some 10) _ = _
                                                simp only [Act.put, List.setIfInBounds_toArray, List.set_cons_zero, List.set_cons_succ, i64_w, i32_w]
                                                rfl
                                              exact norm_ (by first | (simp only [putAll, Act.put, List.setIfInBounds_toArray, List.set_cons_zero, List.set_cons_succ]; done) | (simp only [putAll, Act.put, List.setIfInBounds_toArray, List.set_cons_zero, List.set_cons_succ]; rfl)) (hJ5_9 (v197, gb205) _ ⟨hHeld, (by (with_reducible repeat (first | apply Kd.R_alloc | apply Kd.R_drewN | apply Kd.R_drew)); exact HO198.out), (by (with_reducible repeat (first | refine blk_drewN ?_ _ | refine blk_drew ?_ | refine blk_alloc ?_ _)); exact BK189.out), (by (with_reducible repeat (first | refine blk_drewN ?_ _ | refine blk_drew ?_ | refine blk_alloc ?_ _)); exact BK205.out), GW205.out, GE205.out, NB189_205.out, NB205_189.out, (by repeat (first | (with_reducible first | exact HB.out | apply below_alloc | apply pw_below_drewN | apply below_drew1 | refine below_set ?_ GE189.out | refine below_set ?_ GE205.out) | exact HB.out))⟩)
                                        · skip
                                          rintro v191 w24 ⟨hS_, h0_, h1_, h2_⟩
                                          have n0_ : Aside0 (Kd.R k36 36 w24 w.heap.size (fun k_ => k_ ≠ gb189) v191 y190) := ⟨h0_⟩
                                          have n1_ : Aside0 (w24.heap[gb189]? = some (.cells #[.string (⟨#[82, 101, 116, 114, 121, 45, 65, 102, 116, 101, 114]⟩ : ByteArray), .string a2] 36 (0, 0))) := ⟨h1_⟩
                                          have n2_ : Aside0 (Below w.heap.size w w24) := ⟨h2_⟩
                                          clear BK189
                                          clear HB
                                          clear h0_ h1_ h2_
                                          have HO192 := n0_
                                          have BK189 := n1_
                                          have HB := n2_
                                          clear n0_ n1_ n2_
                                          have hHeld : w24.cell? ⟨gb189, 0, none⟩ = some (.string (⟨#[82, 101, 116, 114, 121, 45, 65, 102, 116, 101, 114]⟩ : ByteArray)) ∧ w24.cell? ⟨gb189, 1, none⟩ = some (.string a2) := hS_
                                          refine norm_ (a' := ?_) ?_ ?_
                                          rotate_left
                                          · simp only [putAll, Act.put, List.setIfInBounds_toArray, List.set_cons_zero, List.set_cons_succ]
                                            rfl
                                          refine three_ (i := 3) (j := 5) (k := 9) (Ni := some 26) (Nj := some 28) (Nk := some 10) #[true, true, true, true, true, false, false, true, false, false, false] #[true, true, true, false, true, true, false, true, false, false, false] #[true, true, true, false, true, false, false, true, false, true, false] rfl rfl rfl rfl rfl rfl (three_of HT_.out (by kernel_rfl)) (by decide) (by decide) (by decide) (fun K hK => ?_) (fun K hK => ?_) (fun K hK => ?_)
                                          · skip
                                            refine Kd.R_append_rows_step k36 (w0 := w) w.heap.size (by rfl) (.tmp 24) (.tmp 25) 22 36 (.agg #[(.string ⟨#[]⟩), (.string ⟨#[]⟩)]) 32 rfl Tryz.underlying22 info36 rfl (by decide) (by omega) v191 y190 l1 _ _ _ (fun k_ => k_ ≠ gb189) (fun _ => False) rfl rfl ?aO ?aR (fun _ _ h => h) (fun _ h => h.elim) ?aF ?aB ?aS ?aL ?_
                                            (case aR => repeat (first | exact (Kd.C_below HR1.out HB.out) | (with_reducible refine Kd.C_alloc ?_ _) | (with_reducible refine Kd.C_drewN ?_ _) | (with_reducible refine Kd.C_drew ?_)))
                                            (case aB => exact (by repeat (first | (with_reducible first | exact HB.out | apply below_alloc | apply pw_below_drewN | apply below_drew1 | refine below_set ?_ GE189.out) | exact HB.out)))
                                            (case aF => exact (fun k_ hk => Kd.freshB (g := gb189) (o := .cells #[.string (⟨#[82, 101, 116, 114, 121, 45, 65, 102, 116, 101, 114]⟩ : ByteArray), .string a2] 36 (0, 0)) (by (with_reducible repeat (first | refine blk_drewN ?_ _ | refine blk_drew ?_ | refine blk_alloc ?_ _)); exact BK189.out) k_ hk))
                                            (case aO => exact (by (with_reducible repeat (first | apply Kd.R_alloc | apply Kd.R_drewN | apply Kd.R_drew)); exact HO192.out))
                                            (case aS => exact (below_size (by repeat (first | (with_reducible first | exact HB.out | apply below_alloc | apply pw_below_drewN | apply below_drew1 | refine below_set ?_ GE189.out) | exact HB.out))))
                                            (case aL => have := LMc11.out; omega)
                                            intro v194 w25 ho hb hg hat
                                            rw [← Ny193.out] at ho
                                            have n0_ := Aside0.mk (blk_grown (g := gb189) (o := .cells #[.string (⟨#[82, 101, 116, 114, 121, 45, 65, 102, 116, 101, 114]⟩ : ByteArray), .string a2] 36 (0, 0)) (by (with_reducible repeat (first | refine blk_drewN ?_ _ | refine blk_drew ?_ | refine blk_alloc ?_ _)); exact BK189.out) hg (Kd.R_away HO192.out (fun _ hk => hk)))
                                            have n1_ := Aside0.mk (hb)
                                            have n2_ := Aside0.mk (ho)
                                            clear BK189
                                            clear HB
                                            clear HO192
                                            have BK189 := n0_
                                            have HB := n1_
                                            have HO195 := n2_
                                            clear n0_ n1_ n2_
                                            clear ho hb hg hat
                                            refine hK.out _ _ ⟨(blk_cell BK189.out 0).trans rfl, (blk_cell BK189.out 1).trans rfl⟩ (fun hHeld => ?_)
                                            clear hK K
                                            refine norm_ (a' := ?_) ?_ ?_
                                            rotate_left
                                            · show Act.put _ (some 26) _ = _
                                              simp only [Act.put, List.setIfInBounds_toArray, List.set_cons_zero, List.set_cons_succ, i64_w, i32_w]
                                              rfl
                                            exact norm_ (by first | (simp only [putAll, Act.put, List.setIfInBounds_toArray, List.set_cons_zero, List.set_cons_succ]; done) | (simp only [putAll, Act.put, List.setIfInBounds_toArray, List.set_cons_zero, List.set_cons_succ]; rfl)) (hJ1_3 (v191, v194) _ ⟨hHeld, (by (with_reducible repeat (first | apply Kd.R_alloc | apply Kd.R_drewN | apply Kd.R_drew)); exact HO195.out), (by (with_reducible repeat (first | refine blk_drewN ?_ _ | refine blk_drew ?_ | refine blk_alloc ?_ _)); exact BK189.out), (by repeat (first | (with_reducible first | exact HB.out | apply below_alloc | apply pw_below_drewN | apply below_drew1 | refine below_set ?_ GE189.out) | exact HB.out))⟩)
                                          · skip
                                            refine Kd.R_lit_step k36 _ 36 ?hg (N := 28) ?hd (xs := ([(⟨(⟨#[82, 101, 116, 114, 121, 45, 65, 102, 116, 101, 114]⟩ : ByteArray), a2⟩ : S36)] : List (S36))) (inner := [.string (⟨#[82, 101, 116, 114, 121, 45, 65, 102, 116, 101, 114]⟩ : ByteArray), .string a2]) (ok := fun _ => True) (okp := fun _ => True) ?hr ?hp (fun _ hk => hk) trivial (Below.refl _ _) (Nat.le_refl _) (by simp) ?_; (case hd => rfl); (case hg => rfl); (case hr => first | (go_simp; done) | (go_simp; rfl)); (case hp => exact (Reps.c2 (show Kd.M k36 _ _ _ (⟨(⟨#[82, 101, 116, 114, 121, 45, 65, 102, 116, 101, 114]⟩ : ByteArray), a2⟩ : S36) [.string (⟨#[82, 101, 116, 114, 121, 45, 65, 102, 116, 101, 114]⟩ : ByteArray), .string a2] from (k36_mkM _ _ _ (⟨(⟨#[82, 101, 116, 114, 121, 45, 65, 102, 116, 101, 114]⟩ : ByteArray), a2⟩ : S36) )) (Reps.none _ _)))
                                            intro v197 w25 ho26 hb hg_ hnew_
                                            clear hg_ hnew_
                                            (first | rw [← Ny196.out] at ho26 | (simp only [Int.reduceToNat] at ho26; rw [← Ny196.out] at ho26))
                                            have n0_ := Aside0.mk (Kd.R_elder' (by (with_reducible repeat (first | apply Kd.R_alloc | apply Kd.R_drewN | apply Kd.R_drew)); exact HO192.out) (Kd.R_base ho26) hb)
                                            have n1_ := Aside0.mk (Kd.R_lower (Kd.R_newB (Kd.R_new' ho26 (Kd.R_lt (by (with_reducible repeat (first | apply Kd.R_alloc | apply Kd.R_drewN | apply Kd.R_drew)); exact HO192.out))) (g := gb189) (o := .cells #[.string (⟨#[82, 101, 116, 114, 121, 45, 65, 102, 116, 101, 114]⟩ : ByteArray), .string a2] 36 (0, 0)) (by (with_reducible repeat (first | refine blk_drewN ?_ _ | refine blk_drew ?_ | refine blk_alloc ?_ _)); exact BK189.out)) (below_size (by repeat (first | (with_reducible first | exact HB.out | apply below_alloc | apply pw_below_drewN | apply below_drew1 | refine below_set ?_ GE189.out) | exact HB.out))))
                                            have n2_ := Aside0.mk (blk_below (g := gb189) (o := .cells #[.string (⟨#[82, 101, 116, 114, 121, 45, 65, 102, 116, 101, 114]⟩ : ByteArray), .string a2] 36 (0, 0)) (by (with_reducible repeat (first | refine blk_drewN ?_ _ | refine blk_drew ?_ | refine blk_alloc ?_ _)); exact BK189.out) hb)
                                            have n3_ := Aside0.mk (below_step (by repeat (first | (with_reducible first | exact HB.out | apply below_alloc | apply pw_below_drewN | apply below_drew1 | refine below_set ?_ GE189.out) | exact HB.out)) hb)
                                            clear HO192
                                            clear BK189
                                            clear HB
                                            have HO192 := n0_
                                            have HO198 := n1_
                                            have BK189 := n2_
                                            have HB := n3_
                                            clear n0_ n1_ n2_ n3_
                                            clear hb ho26
                                            refine hK.out _ _ ⟨(blk_cell BK189.out 0).trans rfl, (blk_cell BK189.out 1).trans rfl⟩ (fun hHeld => ?_)
                                            clear hK K
                                            refine norm_ (a' := ?_) ?_ ?_
                                            rotate_left
                                            · show Act.put _ (some 28) _ = _
                                              simp only [Act.put, List.setIfInBounds_toArray, List.set_cons_zero, List.set_cons_succ, i64_w, i32_w]
                                              rfl
                                            exact norm_ (by first | (simp only [putAll, Act.put, List.setIfInBounds_toArray, List.set_cons_zero, List.set_cons_succ]; done) | (simp only [putAll, Act.put, List.setIfInBounds_toArray, List.set_cons_zero, List.set_cons_succ]; rfl)) (hJ1_5 (v191, v197) _ ⟨hHeld, (by (with_reducible repeat (first | apply Kd.R_alloc | apply Kd.R_drewN | apply Kd.R_drew)); exact Kd.R_mono HO192.out (fun _ hk => ⟨hk.2, hk.1⟩)), (by (with_reducible repeat (first | apply Kd.R_alloc | apply Kd.R_drewN | apply Kd.R_drew)); exact Kd.R_mono HO198.out (fun _ hk => ⟨hk.1.2, hk.2⟩)), (by (with_reducible repeat (first | refine blk_drewN ?_ _ | refine blk_drew ?_ | refine blk_alloc ?_ _)); exact BK189.out), (by repeat (first | (with_reducible first | exact HB.out | apply below_alloc | apply pw_below_drewN | apply below_drew1 | refine below_set ?_ GE189.out) | exact HB.out))⟩)
                                          · skip
                                            refine box_step ?hg (N := 10) ?hd (cs := #[.int .i64 0, .int .i64 0, .int .i64 0]) (t := 29) ?hr ?_; (case hd => rfl); (case hg => rfl); (case hr => first | (go_simp; done) | (go_simp; rfl))
                                            intro gb205 hg w25 hbox hb
                                            have n0_ := Aside0.mk (Kd.R_below (by (with_reducible repeat (first | apply Kd.R_alloc | apply Kd.R_drewN | apply Kd.R_drew)); exact HO192.out) hb)
                                            have n1_ := Aside0.mk (blk_below (g := gb189) (o := .cells #[.string (⟨#[82, 101, 116, 114, 121, 45, 65, 102, 116, 101, 114]⟩ : ByteArray), .string a2] 36 (0, 0)) (by (with_reducible repeat (first | refine blk_drewN ?_ _ | refine blk_drew ?_ | refine blk_alloc ?_ _)); exact BK189.out) hb)
                                            have n2_ := Aside0.mk (below_step (by repeat (first | (with_reducible first | exact HB.out | apply below_alloc | apply pw_below_drewN | apply below_drew1 | refine below_set ?_ GE189.out) | exact HB.out)) hb)
                                            have n3_ := Aside0.mk (hbox)
                                            have n4_ := Aside0.mk ((by rw [hg]; exact (below_size (by repeat (first | (with_reducible first | exact HB.out | apply below_alloc | apply pw_below_drewN | apply below_drew1 | refine below_set ?_ GE189.out) | exact HB.out))) : w.heap.size ≤ gb205))
                                            have n5_ := Aside0.mk ((by rw [hg]; exact (below_size (by repeat (first | (with_reducible first | exact HB.out | apply below_alloc | apply pw_below_drewN | apply below_drew1 | refine below_set ?_ GE189.out) | exact HB.out))) : w.heap.size ≤ gb205))
                                            have n6_ := Aside0.mk ((by rw [hg]; exact Nat.ne_of_lt (blk_lt (g := gb189) (o := .cells #[.string (⟨#[82, 101, 116, 114, 121, 45, 65, 102, 116, 101, 114]⟩ : ByteArray), .string a2] 36 (0, 0)) (by (with_reducible repeat (first | refine blk_drewN ?_ _ | refine blk_drew ?_ | refine blk_alloc ?_ _)); exact BK189.out)) : gb189 ≠ gb205))
                                            have n7_ := Aside0.mk ((by rw [hg]; exact Nat.ne_of_gt (blk_lt (g := gb189) (o := .cells #[.string (⟨#[82, 101, 116, 114, 121, 45, 65, 102, 116, 101, 114]⟩ : ByteArray), .string a2] 36 (0, 0)) (by (with_reducible repeat (first | refine blk_drewN ?_ _ | refine blk_drew ?_ | refine blk_alloc ?_ _)); exact BK189.out)) : gb205 ≠ gb189))
                                            clear HO192
                                            clear BK189
                                            clear HB
                                            have HO192 := n0_
                                            have BK189 := n1_
                                            have HB := n2_
                                            have BK205 := n3_
                                            have GW205 := n4_
                                            have GE205 := n5_
                                            have NB189_205 := n6_
                                            have NB205_189 := n7_
                                            clear n0_ n1_ n2_ n3_ n4_ n5_ n6_ n7_
                                            clear hb hbox hg
                                            refine hK.out _ _ ⟨(blk_cell BK189.out 0).trans rfl, (blk_cell BK189.out 1).trans rfl⟩ (fun hHeld => ?_)
                                            clear hK K
                                            refine norm_ (a' := ?_) ?_ ?_
                                            rotate_left
                                            · show Act.put _ (some 10) _ = _
                                              simp only [Act.put, List.setIfInBounds_toArray, List.set_cons_zero, List.set_cons_succ, i64_w, i32_w]
                                              rfl
                                            exact norm_ (by first | (simp only [putAll, Act.put, List.setIfInBounds_toArray, List.set_cons_zero, List.set_cons_succ]; done) | (simp only [putAll, Act.put, List.setIfInBounds_toArray, List.set_cons_zero, List.set_cons_succ]; rfl)) (hJ1_9 (v191, gb205) _ ⟨hHeld, (by (with_reducible repeat (first | apply Kd.R_alloc | apply Kd.R_drewN | apply Kd.R_drew)); exact HO192.out), (by (with_reducible repeat (first | refine blk_drewN ?_ _ | refine blk_drew ?_ | refine blk_alloc ?_ _)); exact BK189.out), (by (with_reducible repeat (first | refine blk_drewN ?_ _ | refine blk_drew ?_ | refine blk_alloc ?_ _)); exact BK205.out), GW205.out, GE205.out, NB189_205.out, NB205_189.out, (by repeat (first | (with_reducible first | exact HB.out | apply below_alloc | apply pw_below_drewN | apply below_drew1 | refine below_set ?_ GE189.out | refine below_set ?_ GE205.out) | exact HB.out))⟩)
                                      · skip
                                        rintro ⟨v197, gb205⟩ w25 ⟨hS_, h0_, h1_, h2_, h3_, h4_, h5_, h6_, h7_⟩
                                        have n0_ : Aside0 (Kd.R k36 36 w25 w.heap.size (fun k_ => k_ ≠ gb189) v197 y196) := ⟨h0_⟩
                                        have n1_ : Aside0 (w25.heap[gb189]? = some (.cells #[.string (⟨#[82, 101, 116, 114, 121, 45, 65, 102, 116, 101, 114]⟩ : ByteArray), .string a2] 36 (0, 0))) := ⟨h1_⟩
                                        have n2_ : Aside0 (w25.heap[gb205]? = some (.cells #[.int .i64 0, .int .i64 0, .int .i64 0] 29 (0, 0))) := ⟨h2_⟩
                                        have n3_ : Aside0 (w.heap.size ≤ gb205) := ⟨h3_⟩
                                        have n4_ : Aside0 (w.heap.size ≤ gb205) := ⟨h4_⟩
                                        have n5_ : Aside0 (gb189 ≠ gb205) := ⟨h5_⟩
                                        have n6_ : Aside0 (gb205 ≠ gb189) := ⟨h6_⟩
                                        have n7_ : Aside0 (Below w.heap.size w w25) := ⟨h7_⟩
                                        clear BK189
                                        clear HB
                                        clear h0_ h1_ h2_ h3_ h4_ h5_ h6_ h7_
                                        have HO198 := n0_
                                        have BK189 := n1_
                                        have BK205 := n2_
                                        have GW205 := n3_
                                        have GE205 := n4_
                                        have NB189_205 := n5_
                                        have NB205_189 := n6_
                                        have HB := n7_
                                        clear n0_ n1_ n2_ n3_ n4_ n5_ n6_ n7_
                                        have hHeld : w25.cell? ⟨gb189, 0, none⟩ = some (.string (⟨#[82, 101, 116, 114, 121, 45, 65, 102, 116, 101, 114]⟩ : ByteArray)) ∧ w25.cell? ⟨gb189, 1, none⟩ = some (.string a2) := hS_
                                        refine norm_ (a' := ?_) ?_ ?_
                                        rotate_left
                                        · simp only [putAll, Act.put, List.setIfInBounds_toArray, List.set_cons_zero, List.set_cons_succ]
                                          rfl
                                        refine one_ (i := 1) (N := some 24) #[true, true, true, false, true, true, false, true, false, true, false] rfl rfl (one_of HT_.out (by kernel_rfl)) (by decide) (fun K hK => ?_)
                                        refine Kd.R_lit_step k36 _ 36 ?hg (N := 24) ?hd (xs := ([] : List (S36))) (inner := []) (ok := fun _ => True) (okp := fun _ => True) ?hr ?hp (fun _ hk => hk) trivial (Below.refl _ _) (Nat.le_refl _) (by simp) ?_; (case hd => rfl); (case hg => rfl); (case hr => first | (go_simp; done) | (go_simp; rfl)); (case hp => exact (Reps.none _ _))
                                        intro v191 w26 ho27 hb hg_ hnew_
                                        clear hg_ hnew_
                                        (first | rw [← Ny190.out] at ho27 | (simp only [Int.reduceToNat] at ho27; rw [← Ny190.out] at ho27))
                                        have n0_ := Aside0.mk (Kd.R_elder' (by (with_reducible repeat (first | apply Kd.R_alloc | apply Kd.R_drewN | apply Kd.R_drew)); exact HO198.out) (Kd.R_base ho27) hb)
                                        have n1_ := Aside0.mk (Kd.R_lower (Kd.R_newB (Kd.R_new' ho27 (Kd.R_lt (by (with_reducible repeat (first | apply Kd.R_alloc | apply Kd.R_drewN | apply Kd.R_drew)); exact HO198.out))) (g := gb189) (o := .cells #[.string (⟨#[82, 101, 116, 114, 121, 45, 65, 102, 116, 101, 114]⟩ : ByteArray), .string a2] 36 (0, 0)) (by (with_reducible repeat (first | refine blk_drewN ?_ _ | refine blk_drew ?_ | refine blk_alloc ?_ _)); exact BK189.out)) (below_size (by repeat (first | (with_reducible first | exact HB.out | apply below_alloc | apply pw_below_drewN | apply below_drew1 | refine below_set ?_ GE189.out | refine below_set ?_ GE205.out) | exact HB.out))))
                                        have n2_ := Aside0.mk (blk_below (g := gb189) (o := .cells #[.string (⟨#[82, 101, 116, 114, 121, 45, 65, 102, 116, 101, 114]⟩ : ByteArray), .string a2] 36 (0, 0)) (by (with_reducible repeat (first | refine blk_drewN ?_ _ | refine blk_drew ?_ | refine blk_alloc ?_ _)); exact BK189.out) hb)
                                        have n3_ := Aside0.mk (blk_below (g := gb205) (o := .cells #[.int .i64 0, .int .i64 0, .int .i64 0] 29 (0, 0)) (by (with_reducible repeat (first | refine blk_drewN ?_ _ | refine blk_drew ?_ | refine blk_alloc ?_ _)); exact BK205.out) hb)
                                        have n4_ := Aside0.mk (below_step (by repeat (first | (with_reducible first | exact HB.out | apply below_alloc | apply pw_below_drewN | apply below_drew1 | refine below_set ?_ GE189.out | refine below_set ?_ GE205.out) | exact HB.out)) hb)
                                        clear HO198
                                        clear BK189
                                        clear BK205
                                        clear HB
                                        have HO198 := n0_
                                        have HO192 := n1_
                                        have BK189 := n2_
                                        have BK205 := n3_
                                        have HB := n4_
                                        clear n0_ n1_ n2_ n3_ n4_
                                        clear hb ho27
                                        refine hK.out _ _ ⟨(blk_cell BK189.out 0).trans rfl, (blk_cell BK189.out 1).trans rfl⟩ (fun hHeld => ?_)
                                        clear hK K
                                        refine norm_ (a' := ?_) ?_ ?_
                                        rotate_left
                                        · show Act.put _ (some 24) _ = _
                                          simp only [Act.put, List.setIfInBounds_toArray, List.set_cons_zero, List.set_cons_succ, i64_w, i32_w]
                                          rfl
                                        exact norm_ (by first | (simp only [putAll, Act.put, List.setIfInBounds_toArray, List.set_cons_zero, List.set_cons_succ]; done) | (simp only [putAll, Act.put, List.setIfInBounds_toArray, List.set_cons_zero, List.set_cons_succ]; rfl)) (hJ1_5_9 (v191, v197, gb205) _ ⟨hHeld, (by (with_reducible repeat (first | apply Kd.R_alloc | apply Kd.R_drewN | apply Kd.R_drew)); exact Kd.R_mono HO192.out (fun _ hk => ⟨hk.1.2, hk.2⟩)), (by (with_reducible repeat (first | apply Kd.R_alloc | apply Kd.R_drewN | apply Kd.R_drew)); exact Kd.R_mono HO198.out (fun _ hk => ⟨hk.2, hk.1⟩)), (by (with_reducible repeat (first | refine blk_drewN ?_ _ | refine blk_drew ?_ | refine blk_alloc ?_ _)); exact BK189.out), (by (with_reducible repeat (first | refine blk_drewN ?_ _ | refine blk_drew ?_ | refine blk_alloc ?_ _)); exact BK205.out), GW205.out, GE205.out, NB189_205.out, NB205_189.out, (by repeat (first | (with_reducible first | exact HB.out | apply below_alloc | apply pw_below_drewN | apply below_drew1 | refine below_set ?_ GE189.out | refine below_set ?_ GE205.out) | exact HB.out))⟩)
                                    · skip
                                      rintro ⟨v191, gb205⟩ w25 ⟨hS_, h0_, h1_, h2_, h3_, h4_, h5_, h6_, h7_⟩
                                      have n0_ : Aside0 (Kd.R k36 36 w25 w.heap.size (fun k_ => k_ ≠ gb189) v191 y190) := ⟨h0_⟩
                                      have n1_ : Aside0 (w25.heap[gb189]? = some (.cells #[.string (⟨#[82, 101, 116, 114, 121, 45, 65, 102, 116, 101, 114]⟩ : ByteArray), .string a2] 36 (0, 0))) := ⟨h1_⟩
                                      have n2_ : Aside0 (w25.heap[gb205]? = some (.cells #[.int .i64 0, .int .i64 0, .int .i64 0] 29 (0, 0))) := ⟨h2_⟩
                                      have n3_ : Aside0 (w.heap.size ≤ gb205) := ⟨h3_⟩
                                      have n4_ : Aside0 (w.heap.size ≤ gb205) := ⟨h4_⟩
                                      have n5_ : Aside0 (gb189 ≠ gb205) := ⟨h5_⟩
                                      have n6_ : Aside0 (gb205 ≠ gb189) := ⟨h6_⟩
                                      have n7_ : Aside0 (Below w.heap.size w w25) := ⟨h7_⟩
                                      clear BK189
                                      clear HB
                                      clear h0_ h1_ h2_ h3_ h4_ h5_ h6_ h7_
                                      have HO192 := n0_
                                      have BK189 := n1_
                                      have BK205 := n2_
                                      have GW205 := n3_
                                      have GE205 := n4_
                                      have NB189_205 := n5_
                                      have NB205_189 := n6_
                                      have HB := n7_
                                      clear n0_ n1_ n2_ n3_ n4_ n5_ n6_ n7_
                                      have hHeld : w25.cell? ⟨gb189, 0, none⟩ = some (.string (⟨#[82, 101, 116, 114, 121, 45, 65, 102, 116, 101, 114]⟩ : ByteArray)) ∧ w25.cell? ⟨gb189, 1, none⟩ = some (.string a2) := hS_
                                      refine norm_ (a' := ?_) ?_ ?_
                                      rotate_left
                                      · simp only [putAll, Act.put, List.setIfInBounds_toArray, List.set_cons_zero, List.set_cons_succ]
                                        rfl
                                      refine two_ (i := 3) (j := 5) (Ni := some 26) (Nj := some 28) #[true, true, true, true, true, false, false, true, false, true, false] #[true, true, true, false, true, true, false, true, false, true, false] rfl rfl rfl rfl (two_of HT_.out (by kernel_rfl)) (by decide) (by decide) (fun K hK => ?_) (fun K hK => ?_)
                                      · skip
                                        refine Kd.R_append_rows_step k36 (w0 := w) w.heap.size (by rfl) (.tmp 24) (.tmp 25) 22 36 (.agg #[(.string ⟨#[]⟩), (.string ⟨#[]⟩)]) 32 rfl Tryz.underlying22 info36 rfl (by decide) (by omega) v191 y190 l1 _ _ _ (fun k_ => k_ ≠ gb189) (fun _ => False) rfl rfl ?aO ?aR (fun _ _ h => h) (fun _ h => h.elim) ?aF ?aB ?aS ?aL ?_
                                        (case aR => repeat (first | exact (Kd.C_below HR1.out HB.out) | (with_reducible refine Kd.C_alloc ?_ _) | (with_reducible refine Kd.C_drewN ?_ _) | (with_reducible refine Kd.C_drew ?_)))
                                        (case aB => exact (by repeat (first | (with_reducible first | exact HB.out | apply below_alloc | apply pw_below_drewN | apply below_drew1 | refine below_set ?_ GE189.out | refine below_set ?_ GE205.out) | exact HB.out)))
                                        (case aF => exact (fun k_ hk => Kd.freshB (g := gb189) (o := .cells #[.string (⟨#[82, 101, 116, 114, 121, 45, 65, 102, 116, 101, 114]⟩ : ByteArray), .string a2] 36 (0, 0)) (by (with_reducible repeat (first | refine blk_drewN ?_ _ | refine blk_drew ?_ | refine blk_alloc ?_ _)); exact BK189.out) k_ hk))
                                        (case aO => exact (by (with_reducible repeat (first | apply Kd.R_alloc | apply Kd.R_drewN | apply Kd.R_drew)); exact HO192.out))
                                        (case aS => exact (below_size (by repeat (first | (with_reducible first | exact HB.out | apply below_alloc | apply pw_below_drewN | apply below_drew1 | refine below_set ?_ GE189.out | refine below_set ?_ GE205.out) | exact HB.out))))
                                        (case aL => have := LMc11.out; omega)
                                        intro v194 w26 ho hb hg hat
                                        rw [← Ny193.out] at ho
                                        have n0_ := Aside0.mk (blk_grown (g := gb189) (o := .cells #[.string (⟨#[82, 101, 116, 114, 121, 45, 65, 102, 116, 101, 114]⟩ : ByteArray), .string a2] 36 (0, 0)) (by (with_reducible repeat (first | refine blk_drewN ?_ _ | refine blk_drew ?_ | refine blk_alloc ?_ _)); exact BK189.out) hg (Kd.R_away HO192.out (fun _ hk => hk)))
                                        have n1_ := Aside0.mk (blk_grown (g := gb205) (o := .cells #[.int .i64 0, .int .i64 0, .int .i64 0] 29 (0, 0)) (by (with_reducible repeat (first | refine blk_drewN ?_ _ | refine blk_drew ?_ | refine blk_alloc ?_ _)); exact BK205.out) hg (Kd.R_ne HO192.out BK205.out (by decide)))
                                        have n2_ := Aside0.mk (hb)
                                        have n3_ := Aside0.mk (ho)
                                        clear BK189
                                        clear BK205
                                        clear HB
                                        clear HO192
                                        have BK189 := n0_
                                        have BK205 := n1_
                                        have HB := n2_
                                        have HO195 := n3_
                                        clear n0_ n1_ n2_ n3_
                                        clear ho hb hg hat
                                        refine hK.out _ _ ⟨(blk_cell BK189.out 0).trans rfl, (blk_cell BK189.out 1).trans rfl⟩ (fun hHeld => ?_)
                                        clear hK K
                                        refine norm_ (a' := ?_) ?_ ?_
                                        rotate_left
                                        · show Act.put _ (some 26) _ = _
                                          simp only [Act.put, List.setIfInBounds_toArray, List.set_cons_zero, List.set_cons_succ, i64_w, i32_w]
                                          rfl
                                        exact norm_ (by first | (simp only [putAll, Act.put, List.setIfInBounds_toArray, List.set_cons_zero, List.set_cons_succ]; done) | (simp only [putAll, Act.put, List.setIfInBounds_toArray, List.set_cons_zero, List.set_cons_succ]; rfl)) (hJ1_3_9 (v191, v194, gb205) _ ⟨hHeld, (by (with_reducible repeat (first | apply Kd.R_alloc | apply Kd.R_drewN | apply Kd.R_drew)); exact HO195.out), (by (with_reducible repeat (first | refine blk_drewN ?_ _ | refine blk_drew ?_ | refine blk_alloc ?_ _)); exact BK189.out), (by (with_reducible repeat (first | refine blk_drewN ?_ _ | refine blk_drew ?_ | refine blk_alloc ?_ _)); exact BK205.out), GW205.out, GE205.out, NB189_205.out, NB205_189.out, (by repeat (first | (with_reducible first | exact HB.out | apply below_alloc | apply pw_below_drewN | apply below_drew1 | refine below_set ?_ GE189.out | refine below_set ?_ GE205.out) | exact HB.out))⟩)
                                      · skip
                                        refine Kd.R_lit_step k36 _ 36 ?hg (N := 28) ?hd (xs := ([(⟨(⟨#[82, 101, 116, 114, 121, 45, 65, 102, 116, 101, 114]⟩ : ByteArray), a2⟩ : S36)] : List (S36))) (inner := [.string (⟨#[82, 101, 116, 114, 121, 45, 65, 102, 116, 101, 114]⟩ : ByteArray), .string a2]) (ok := fun _ => True) (okp := fun _ => True) ?hr ?hp (fun _ hk => hk) trivial (Below.refl _ _) (Nat.le_refl _) (by simp) ?_; (case hd => rfl); (case hg => rfl); (case hr => first | (go_simp; done) | (go_simp; rfl)); (case hp => exact (Reps.c2 (show Kd.M k36 _ _ _ (⟨(⟨#[82, 101, 116, 114, 121, 45, 65, 102, 116, 101, 114]⟩ : ByteArray), a2⟩ : S36) [.string (⟨#[82, 101, 116, 114, 121, 45, 65, 102, 116, 101, 114]⟩ : ByteArray), .string a2] from (k36_mkM _ _ _ (⟨(⟨#[82, 101, 116, 114, 121, 45, 65, 102, 116, 101, 114]⟩ : ByteArray), a2⟩ : S36) )) (Reps.none _ _)))
                                        intro v197 w26 ho27 hb hg_ hnew_
                                        clear hg_ hnew_
                                        (first | rw [← Ny196.out] at ho27 | (simp only [Int.reduceToNat] at ho27; rw [← Ny196.out] at ho27))
                                        have n0_ := Aside0.mk (Kd.R_elder' (by (with_reducible repeat (first | apply Kd.R_alloc | apply Kd.R_drewN | apply Kd.R_drew)); exact HO192.out) (Kd.R_base ho27) hb)
                                        have n1_ := Aside0.mk (Kd.R_lower (Kd.R_newB (Kd.R_new' ho27 (Kd.R_lt (by (with_reducible repeat (first | apply Kd.R_alloc | apply Kd.R_drewN | apply Kd.R_drew)); exact HO192.out))) (g := gb189) (o := .cells #[.string (⟨#[82, 101, 116, 114, 121, 45, 65, 102, 116, 101, 114]⟩ : ByteArray), .string a2] 36 (0, 0)) (by (with_reducible repeat (first | refine blk_drewN ?_ _ | refine blk_drew ?_ | refine blk_alloc ?_ _)); exact BK189.out)) (below_size (by repeat (first | (with_reducible first | exact HB.out | apply below_alloc | apply pw_below_drewN | apply below_drew1 | refine below_set ?_ GE189.out | refine below_set ?_ GE205.out) | exact HB.out))))
                                        have n2_ := Aside0.mk (blk_below (g := gb189) (o := .cells #[.string (⟨#[82, 101, 116, 114, 121, 45, 65, 102, 116, 101, 114]⟩ : ByteArray), .string a2] 36 (0, 0)) (by (with_reducible repeat (first | refine blk_drewN ?_ _ | refine blk_drew ?_ | refine blk_alloc ?_ _)); exact BK189.out) hb)
                                        have n3_ := Aside0.mk (blk_below (g := gb205) (o := .cells #[.int .i64 0, .int .i64 0, .int .i64 0] 29 (0, 0)) (by (with_reducible repeat (first | refine blk_drewN ?_ _ | refine blk_drew ?_ | refine blk_alloc ?_ _)); exact BK205.out) hb)
                                        have n4_ := Aside0.mk (below_step (by repeat (first | (with_reducible first | exact HB.out | apply below_alloc | apply pw_below_drewN | apply below_drew1 | refine below_set ?_ GE189.out | refine below_set ?_ GE205.out) | exact HB.out)) hb)
                                        clear HO192
                                        clear BK189
                                        clear BK205
                                        clear HB
                                        have HO192 := n0_
                                        have HO198 := n1_
                                        have BK189 := n2_
                                        have BK205 := n3_
                                        have HB := n4_
                                        clear n0_ n1_ n2_ n3_ n4_
                                        clear hb ho27
                                        refine hK.out _ _ ⟨(blk_cell BK189.out 0).trans rfl, (blk_cell BK189.out 1).trans rfl⟩ (fun hHeld => ?_)
                                        clear hK K
                                        refine norm_ (a' := ?_) ?_ ?_
                                        rotate_left
                                        · show Act.put _ (some 28) _ = _
                                          simp only [Act.put, List.setIfInBounds_toArray, List.set_cons_zero, List.set_cons_succ, i64_w, i32_w]
                                          rfl
                                        exact norm_ (by first | (simp only [putAll, Act.put, List.setIfInBounds_toArray, List.set_cons_zero, List.set_cons_succ]; done) | (simp only [putAll, Act.put, List.setIfInBounds_toArray, List.set_cons_zero, List.set_cons_succ]; rfl)) (hJ1_5_9 (v191, v197, gb205) _ ⟨hHeld, (by (with_reducible repeat (first | apply Kd.R_alloc | apply Kd.R_drewN | apply Kd.R_drew)); exact Kd.R_mono HO192.out (fun _ hk => ⟨hk.2, hk.1⟩)), (by (with_reducible repeat (first | apply Kd.R_alloc | apply Kd.R_drewN | apply Kd.R_drew)); exact Kd.R_mono HO198.out (fun _ hk => ⟨hk.1.2, hk.2⟩)), (by (with_reducible repeat (first | refine blk_drewN ?_ _ | refine blk_drew ?_ | refine blk_alloc ?_ _)); exact BK189.out), (by (with_reducible repeat (first | refine blk_drewN ?_ _ | refine blk_drew ?_ | refine blk_alloc ?_ _)); exact BK205.out), GW205.out, GE205.out, NB189_205.out, NB205_189.out, (by repeat (first | (with_reducible first | exact HB.out | apply below_alloc | apply pw_below_drewN | apply below_drew1 | refine below_set ?_ GE189.out | refine below_set ?_ GE205.out) | exact HB.out))⟩)
                                  · skip
                                    rintro ⟨v191, v197⟩ w26 ⟨hS_, h0_, h1_, h2_, h3_⟩
                                    have n0_ : Aside0 (Kd.R k36 36 w26 w.heap.size (fun k_ => some k_ ≠ (v197 : Value).ownBlock ∧ k_ ≠ gb189) v191 y190) := ⟨h0_⟩
                                    have n1_ : Aside0 (Kd.R k36 36 w26 w.heap.size (fun k_ => some k_ ≠ (v191 : Value).ownBlock ∧ k_ ≠ gb189) v197 y196) := ⟨h1_⟩
                                    have n2_ : Aside0 (w26.heap[gb189]? = some (.cells #[.string (⟨#[82, 101, 116, 114, 121, 45, 65, 102, 116, 101, 114]⟩ : ByteArray), .string a2] 36 (0, 0))) := ⟨h2_⟩
                                    have n3_ : Aside0 (Below w.heap.size w w26) := ⟨h3_⟩
                                    clear BK189
                                    clear HB
                                    clear h0_ h1_ h2_ h3_
                                    have HO192 := n0_
                                    have HO198 := n1_
                                    have BK189 := n2_
                                    have HB := n3_
                                    clear n0_ n1_ n2_ n3_
                                    have hHeld : w26.cell? ⟨gb189, 0, none⟩ = some (.string (⟨#[82, 101, 116, 114, 121, 45, 65, 102, 116, 101, 114]⟩ : ByteArray)) ∧ w26.cell? ⟨gb189, 1, none⟩ = some (.string a2) := hS_
                                    refine norm_ (a' := ?_) ?_ ?_
                                    rotate_left
                                    · simp only [putAll, Act.put, List.setIfInBounds_toArray, List.set_cons_zero, List.set_cons_succ]
                                      rfl
                                    refine two_ (i := 3) (j := 9) (Ni := some 26) (Nj := some 10) #[true, true, true, true, true, true, false, true, false, false, false] #[true, true, true, false, true, true, false, true, false, true, false] rfl rfl rfl rfl (two_of HT_.out (by kernel_rfl)) (by decide) (by decide) (fun K hK => ?_) (fun K hK => ?_)
                                    · skip
                                      refine Kd.R_append_rows_step k36 (w0 := w) w.heap.size (by rfl) (.tmp 24) (.tmp 25) 22 36 (.agg #[(.string ⟨#[]⟩), (.string ⟨#[]⟩)]) 32 rfl Tryz.underlying22 info36 rfl (by decide) (by omega) v191 y190 l1 _ _ _ (fun k_ => some k_ ≠ (v197 : Value).ownBlock ∧ k_ ≠ gb189) (fun _ => False) rfl rfl ?aO ?aR (fun _ _ h => h) (fun _ h => h.elim) ?aF ?aB ?aS ?aL ?_
                                      (case aR => repeat (first | exact (Kd.C_below HR1.out HB.out) | (with_reducible refine Kd.C_alloc ?_ _) | (with_reducible refine Kd.C_drewN ?_ _) | (with_reducible refine Kd.C_drew ?_)))
                                      (case aB => exact (by repeat (first | (with_reducible first | exact HB.out | apply below_alloc | apply pw_below_drewN | apply below_drew1 | refine below_set ?_ GE189.out) | exact HB.out)))
                                      (case aF => exact (fun k_ hk => ⟨Kd.fresh' (Kd.R_lt (by (with_reducible repeat (first | apply Kd.R_alloc | apply Kd.R_drewN | apply Kd.R_drew)); exact HO198.out)) k_ hk, Kd.freshB (g := gb189) (o := .cells #[.string (⟨#[82, 101, 116, 114, 121, 45, 65, 102, 116, 101, 114]⟩ : ByteArray), .string a2] 36 (0, 0)) (by (with_reducible repeat (first | refine blk_drewN ?_ _ | refine blk_drew ?_ | refine blk_alloc ?_ _)); exact BK189.out) k_ hk⟩))
                                      (case aO => exact (by (with_reducible repeat (first | apply Kd.R_alloc | apply Kd.R_drewN | apply Kd.R_drew)); exact HO192.out))
                                      (case aS => exact (below_size (by repeat (first | (with_reducible first | exact HB.out | apply below_alloc | apply pw_below_drewN | apply below_drew1 | refine below_set ?_ GE189.out) | exact HB.out))))
                                      (case aL => have := LMc11.out; omega)
                                      intro v194 w27 ho hb hg hat
                                      rw [← Ny193.out] at ho
                                      have n0_ := Aside0.mk (blk_grown (g := gb189) (o := .cells #[.string (⟨#[82, 101, 116, 114, 121, 45, 65, 102, 116, 101, 114]⟩ : ByteArray), .string a2] 36 (0, 0)) (by (with_reducible repeat (first | refine blk_drewN ?_ _ | refine blk_drew ?_ | refine blk_alloc ?_ _)); exact BK189.out) hg (Kd.R_away HO192.out (fun _ hk => hk.2)))
                                      have n1_ := Aside0.mk (Kd.R_after (ok := (fun k_ => k_ ≠ gb189)) (by (with_reducible repeat (first | apply Kd.R_alloc | apply Kd.R_drewN | apply Kd.R_drew)); exact Kd.R_mono HO198.out (fun _ hk => ⟨hk.2, hk.1⟩)) hg hat)
                                      have n2_ := Aside0.mk (hb)
                                      have n3_ := Aside0.mk (ho)
                                      clear BK189
                                      clear HO198
                                      clear HB
                                      clear HO192
                                      have BK189 := n0_
                                      have HO198 := n1_
                                      have HB := n2_
                                      have HO195 := n3_
                                      clear n0_ n1_ n2_ n3_
                                      clear ho hb hg hat
                                      refine hK.out _ _ ⟨(blk_cell BK189.out 0).trans rfl, (blk_cell BK189.out 1).trans rfl⟩ (fun hHeld => ?_)
                                      clear hK K
                                      refine norm_ (a' := ?_) ?_ ?_
                                      rotate_left
                                      · show Act.put _ (some 26) _ = _
                                        simp only [Act.put, List.setIfInBounds_toArray, List.set_cons_zero, List.set_cons_succ, i64_w, i32_w]
                                        rfl
                                      exact norm_ (by first | (simp only [putAll, Act.put, List.setIfInBounds_toArray, List.set_cons_zero, List.set_cons_succ]; done) | (simp only [putAll, Act.put, List.setIfInBounds_toArray, List.set_cons_zero, List.set_cons_succ]; rfl)) (hJ1_3_5 (v191, v194, v197) _ ⟨hHeld, (by (with_reducible repeat (first | apply Kd.R_alloc | apply Kd.R_drewN | apply Kd.R_drew)); exact HO195.out), (by (with_reducible repeat (first | apply Kd.R_alloc | apply Kd.R_drewN | apply Kd.R_drew)); exact Kd.R_mono HO198.out (fun _ hk => ⟨hk.2, hk.1⟩)), (by (with_reducible repeat (first | refine blk_drewN ?_ _ | refine blk_drew ?_ | refine blk_alloc ?_ _)); exact BK189.out), (by repeat (first | (with_reducible first | exact HB.out | apply below_alloc | apply pw_below_drewN | apply below_drew1 | refine below_set ?_ GE189.out) | exact HB.out))⟩)
                                    · skip
                                      refine box_step ?hg (N := 10) ?hd (cs := #[.int .i64 0, .int .i64 0, .int .i64 0]) (t := 29) ?hr ?_; (case hd => rfl); (case hg => rfl); (case hr => first | (go_simp; done) | (go_simp; rfl))
                                      intro gb205 hg w27 hbox hb
                                      have n0_ := Aside0.mk (Kd.R_below (by (with_reducible repeat (first | apply Kd.R_alloc | apply Kd.R_drewN | apply Kd.R_drew)); exact HO192.out) hb)
                                      have n1_ := Aside0.mk (Kd.R_below (by (with_reducible repeat (first | apply Kd.R_alloc | apply Kd.R_drewN | apply Kd.R_drew)); exact HO198.out) hb)
                                      have n2_ := Aside0.mk (blk_below (g := gb189) (o := .cells #[.string (⟨#[82, 101, 116, 114, 121, 45, 65, 102, 116, 101, 114]⟩ : ByteArray), .string a2] 36 (0, 0)) (by (with_reducible repeat (first | refine blk_drewN ?_ _ | refine blk_drew ?_ | refine blk_alloc ?_ _)); exact BK189.out) hb)
                                      have n3_ := Aside0.mk (below_step (by repeat (first | (with_reducible first | exact HB.out | apply below_alloc | apply pw_below_drewN | apply below_drew1 | refine below_set ?_ GE189.out) | exact HB.out)) hb)
                                      have n4_ := Aside0.mk (hbox)
                                      have n5_ := Aside0.mk ((by rw [hg]; exact (below_size (by repeat (first | (with_reducible first | exact HB.out | apply below_alloc | apply pw_below_drewN | apply below_drew1 | refine below_set ?_ GE189.out) | exact HB.out))) : w.heap.size ≤ gb205))
                                      have n6_ := Aside0.mk ((by rw [hg]; exact (below_size (by repeat (first | (with_reducible first | exact HB.out | apply below_alloc | apply pw_below_drewN | apply below_drew1 | refine below_set ?_ GE189.out) | exact HB.out))) : w.heap.size ≤ gb205))
                                      have n7_ := Aside0.mk ((by rw [hg]; exact Nat.ne_of_lt (blk_lt (g := gb189) (o := .cells #[.string (⟨#[82, 101, 116, 114, 121, 45, 65, 102, 116, 101, 114]⟩ : ByteArray), .string a2] 36 (0, 0)) (by (with_reducible repeat (first | refine blk_drewN ?_ _ | refine blk_drew ?_ | refine blk_alloc ?_ _)); exact BK189.out)) : gb189 ≠ gb205))
                                      have n8_ := Aside0.mk ((by rw [hg]; exact Nat.ne_of_gt (blk_lt (g := gb189) (o := .cells #[.string (⟨#[82, 101, 116, 114, 121, 45, 65, 102, 116, 101, 114]⟩ : ByteArray), .string a2] 36 (0, 0)) (by (with_reducible repeat (first | refine blk_drewN ?_ _ | refine blk_drew ?_ | refine blk_alloc ?_ _)); exact BK189.out)) : gb205 ≠ gb189))
                                      clear HO192
                                      clear HO198
                                      clear BK189
                                      clear HB
                                      have HO192 := n0_
                                      have HO198 := n1_
                                      have BK189 := n2_
                                      have HB := n3_
                                      have BK205 := n4_
                                      have GW205 := n5_
                                      have GE205 := n6_
                                      have NB189_205 := n7_
                                      have NB205_189 := n8_
                                      clear n0_ n1_ n2_ n3_ n4_ n5_ n6_ n7_ n8_
                                      clear hb hbox hg
                                      refine hK.out _ _ ⟨(blk_cell BK189.out 0).trans rfl, (blk_cell BK189.out 1).trans rfl⟩ (fun hHeld => ?_)
                                      clear hK K
                                      refine norm_ (a' := ?_) ?_ ?_
                                      rotate_left
                                      · show Act.put _ (some 10) _ = _
                                        simp only [Act.put, List.setIfInBounds_toArray, List.set_cons_zero, List.set_cons_succ, i64_w, i32_w]
                                        rfl
                                      exact norm_ (by first | (simp only [putAll, Act.put, List.setIfInBounds_toArray, List.set_cons_zero, List.set_cons_succ]; done) | (simp only [putAll, Act.put, List.setIfInBounds_toArray, List.set_cons_zero, List.set_cons_succ]; rfl)) (hJ1_5_9 (v191, v197, gb205) _ ⟨hHeld, (by (with_reducible repeat (first | apply Kd.R_alloc | apply Kd.R_drewN | apply Kd.R_drew)); exact HO192.out), (by (with_reducible repeat (first | apply Kd.R_alloc | apply Kd.R_drewN | apply Kd.R_drew)); exact HO198.out), (by (with_reducible repeat (first | refine blk_drewN ?_ _ | refine blk_drew ?_ | refine blk_alloc ?_ _)); exact BK189.out), (by (with_reducible repeat (first | refine blk_drewN ?_ _ | refine blk_drew ?_ | refine blk_alloc ?_ _)); exact BK205.out), GW205.out, GE205.out, NB189_205.out, NB205_189.out, (by repeat (first | (with_reducible first | exact HB.out | apply below_alloc | apply pw_below_drewN | apply below_drew1 | refine below_set ?_ GE189.out | refine below_set ?_ GE205.out) | exact HB.out))⟩)
                                · skip
                                  rintro ⟨v191, v194⟩ w25 ⟨hS_, h0_, h1_, h2_⟩
                                  have n0_ : Aside0 (Kd.R k36 36 w25 w.heap.size (fun k_ => k_ ≠ gb189) v194 y193) := ⟨h0_⟩
                                  have n1_ : Aside0 (w25.heap[gb189]? = some (.cells #[.string (⟨#[82, 101, 116, 114, 121, 45, 65, 102, 116, 101, 114]⟩ : ByteArray), .string a2] 36 (0, 0))) := ⟨h1_⟩
                                  have n2_ : Aside0 (Below w.heap.size w w25) := ⟨h2_⟩
                                  clear BK189
                                  clear HB
                                  clear h0_ h1_ h2_
                                  have HO195 := n0_
                                  have BK189 := n1_
                                  have HB := n2_
                                  clear n0_ n1_ n2_
                                  have hHeld : w25.cell? ⟨gb189, 0, none⟩ = some (.string (⟨#[82, 101, 116, 114, 121, 45, 65, 102, 116, 101, 114]⟩ : ByteArray)) ∧ w25.cell? ⟨gb189, 1, none⟩ = some (.string a2) := hS_
                                  refine norm_ (a' := ?_) ?_ ?_
                                  rotate_left
                                  · simp only [putAll, Act.put, List.setIfInBounds_toArray, List.set_cons_zero, List.set_cons_succ]
                                    rfl
                                  refine two_ (i := 5) (j := 9) (Ni := some 28) (Nj := some 10) #[true, true, true, true, true, true, false, true, false, false, false] #[true, true, true, true, true, false, false, true, false, true, false] rfl rfl rfl rfl (two_of HT_.out (by kernel_rfl)) (by decide) (by decide) (fun K hK => ?_) (fun K hK => ?_)
                                  · skip
                                    refine Kd.R_lit_step k36 _ 36 ?hg (N := 28) ?hd (xs := ([(⟨(⟨#[82, 101, 116, 114, 121, 45, 65, 102, 116, 101, 114]⟩ : ByteArray), a2⟩ : S36)] : List (S36))) (inner := [.string (⟨#[82, 101, 116, 114, 121, 45, 65, 102, 116, 101, 114]⟩ : ByteArray), .string a2]) (ok := fun _ => True) (okp := fun _ => True) ?hr ?hp (fun _ hk => hk) trivial (Below.refl _ _) (Nat.le_refl _) (by simp) ?_; (case hd => rfl); (case hg => rfl); (case hr => first | (go_simp; done) | (go_simp; rfl)); (case hp => exact (Reps.c2 (show Kd.M k36 _ _ _ (⟨(⟨#[82, 101, 116, 114, 121, 45, 65, 102, 116, 101, 114]⟩ : ByteArray), a2⟩ : S36) [.string (⟨#[82, 101, 116, 114, 121, 45, 65, 102, 116, 101, 114]⟩ : ByteArray), .string a2] from (k36_mkM _ _ _ (⟨(⟨#[82, 101, 116, 114, 121, 45, 65, 102, 116, 101, 114]⟩ : ByteArray), a2⟩ : S36) )) (Reps.none _ _)))
                                    intro v197 w26 ho27 hb hg_ hnew_
                                    clear hg_ hnew_
                                    (first | rw [← Ny196.out] at ho27 | (simp only [Int.reduceToNat] at ho27; rw [← Ny196.out] at ho27))
                                    have n0_ := Aside0.mk (Kd.R_elder' (by (with_reducible repeat (first | apply Kd.R_alloc | apply Kd.R_drewN | apply Kd.R_drew)); exact HO195.out) (Kd.R_base ho27) hb)
                                    have n1_ := Aside0.mk (Kd.R_lower (Kd.R_newB (Kd.R_new' ho27 (Kd.R_lt (by (with_reducible repeat (first | apply Kd.R_alloc | apply Kd.R_drewN | apply Kd.R_drew)); exact HO195.out))) (g := gb189) (o := .cells #[.string (⟨#[82, 101, 116, 114, 121, 45, 65, 102, 116, 101, 114]⟩ : ByteArray), .string a2] 36 (0, 0)) (by (with_reducible repeat (first | refine blk_drewN ?_ _ | refine blk_drew ?_ | refine blk_alloc ?_ _)); exact BK189.out)) (below_size (by repeat (first | (with_reducible first | exact HB.out | apply below_alloc | apply pw_below_drewN | apply below_drew1 | refine below_set ?_ GE189.out) | exact HB.out))))
                                    have n2_ := Aside0.mk (blk_below (g := gb189) (o := .cells #[.string (⟨#[82, 101, 116, 114, 121, 45, 65, 102, 116, 101, 114]⟩ : ByteArray), .string a2] 36 (0, 0)) (by (with_reducible repeat (first | refine blk_drewN ?_ _ | refine blk_drew ?_ | refine blk_alloc ?_ _)); exact BK189.out) hb)
                                    have n3_ := Aside0.mk (below_step (by repeat (first | (with_reducible first | exact HB.out | apply below_alloc | apply pw_below_drewN | apply below_drew1 | refine below_set ?_ GE189.out) | exact HB.out)) hb)
                                    clear HO195
                                    clear BK189
                                    clear HB
                                    have HO195 := n0_
                                    have HO198 := n1_
                                    have BK189 := n2_
                                    have HB := n3_
                                    clear n0_ n1_ n2_ n3_
                                    clear hb ho27
                                    refine hK.out _ _ ⟨(blk_cell BK189.out 0).trans rfl, (blk_cell BK189.out 1).trans rfl⟩ (fun hHeld => ?_)
                                    clear hK K
                                    refine norm_ (a' := ?_) ?_ ?_
                                    rotate_left
                                    · show Act.put _ (some 28) _ = _
                                      simp only [Act.put, List.setIfInBounds_toArray, List.set_cons_zero, List.set_cons_succ, i64_w, i32_w]
                                      rfl
                                    exact norm_ (by first | (simp only [putAll, Act.put, List.setIfInBounds_toArray, List.set_cons_zero, List.set_cons_succ]; done) | (simp only [putAll, Act.put, List.setIfInBounds_toArray, List.set_cons_zero, List.set_cons_succ]; rfl)) (hJ1_3_5 (v191, v194, v197) _ ⟨hHeld, (by (with_reducible repeat (first | apply Kd.R_alloc | apply Kd.R_drewN | apply Kd.R_drew)); exact Kd.R_mono HO195.out (fun _ hk => ⟨hk.2, hk.1⟩)), (by (with_reducible repeat (first | apply Kd.R_alloc | apply Kd.R_drewN | apply Kd.R_drew)); exact Kd.R_mono HO198.out (fun _ hk => ⟨hk.1.2, hk.2⟩)), (by (with_reducible repeat (first | refine blk_drewN ?_ _ | refine blk_drew ?_ | refine blk_alloc ?_ _)); exact BK189.out), (by repeat (first | (with_reducible first | exact HB.out | apply below_alloc | apply pw_below_drewN | apply below_drew1 | refine below_set ?_ GE189.out) | exact HB.out))⟩)
                                  · skip
                                    refine box_step ?hg (N := 10) ?hd (cs := #[.int .i64 0, .int .i64 0, .int .i64 0]) (t := 29) ?hr ?_; (case hd => rfl); (case hg => rfl); (case hr => first | (go_simp; done) | (go_simp; rfl))
                                    intro gb205 hg w26 hbox hb
                                    have n0_ := Aside0.mk (Kd.R_below (by (with_reducible repeat (first | apply Kd.R_alloc | apply Kd.R_drewN | apply Kd.R_drew)); exact HO195.out) hb)
                                    have n1_ := Aside0.mk (blk_below (g := gb189) (o := .cells #[.string (⟨#[82, 101, 116, 114, 121, 45, 65, 102, 116, 101, 114]⟩ : ByteArray), .string a2] 36 (0, 0)) (by (with_reducible repeat (first | refine blk_drewN ?_ _ | refine blk_drew ?_ | refine blk_alloc ?_ _)); exact BK189.out) hb)
                                    have n2_ := Aside0.mk (below_step (by repeat (first | (with_reducible first | exact HB.out | apply below_alloc | apply pw_below_drewN | apply below_drew1 | refine below_set ?_ GE189.out) | exact HB.out)) hb)
                                    have n3_ := Aside0.mk (hbox)
                                    have n4_ := Aside0.mk ((by rw [hg]; exact (below_size (by repeat (first | (with_reducible first | exact HB.out | apply below_alloc | apply pw_below_drewN | apply below_drew1 | refine below_set ?_ GE189.out) | exact HB.out))) : w.heap.size ≤ gb205))
                                    have n5_ := Aside0.mk ((by rw [hg]; exact (below_size (by repeat (first | (with_reducible first | exact HB.out | apply below_alloc | apply pw_below_drewN | apply below_drew1 | refine below_set ?_ GE189.out) | exact HB.out))) : w.heap.size ≤ gb205))
                                    have n6_ := Aside0.mk ((by rw [hg]; exact Nat.ne_of_lt (blk_lt (g := gb189) (o := .cells #[.string (⟨#[82, 101, 116, 114, 121, 45, 65, 102, 116, 101, 114]⟩ : ByteArray), .string a2] 36 (0, 0)) (by (with_reducible repeat (first | refine blk_drewN ?_ _ | refine blk_drew ?_ | refine blk_alloc ?_ _)); exact BK189.out)) : gb189 ≠ gb205))
                                    have n7_ := Aside0.mk ((by rw [hg]; exact Nat.ne_of_gt (blk_lt (g := gb189) (o := .cells #[.string (⟨#[82, 101, 116, 114, 121, 45, 65, 102, 116, 101, 114]⟩ : ByteArray), .string a2] 36 (0, 0)) (by (with_reducible repeat (first | refine blk_drewN ?_ _ | refine blk_drew ?_ | refine blk_alloc ?_ _)); exact BK189.out)) : gb205 ≠ gb189))
                                    clear HO195
                                    clear BK189
                                    clear HB
                                    have HO195 := n0_
                                    have BK189 := n1_
                                    have HB := n2_
                                    have BK205 := n3_
                                    have GW205 := n4_
                                    have GE205 := n5_
                                    have NB189_205 := n6_
                                    have NB205_189 := n7_
                                    clear n0_ n1_ n2_ n3_ n4_ n5_ n6_ n7_
                                    clear hb hbox hg
                                    refine hK.out _ _ ⟨(blk_cell BK189.out 0).trans rfl, (blk_cell BK189.out 1).trans rfl⟩ (fun hHeld => ?_)
                                    clear hK K
                                    refine norm_ (a' := ?_) ?_ ?_
                                    rotate_left
                                    · show Act.put _ (some 10) _ = _
                                      simp only [Act.put, List.setIfInBounds_toArray, List.set_cons_zero, List.set_cons_succ, i64_w, i32_w]
                                      rfl
                                    exact norm_ (by first | (simp only [putAll, Act.put, List.setIfInBounds_toArray, List.set_cons_zero, List.set_cons_succ]; done) | (simp only [putAll, Act.put, List.setIfInBounds_toArray, List.set_cons_zero, List.set_cons_succ]; rfl)) (hJ1_3_9 (v191, v194, gb205) _ ⟨hHeld, (by (with_reducible repeat (first | apply Kd.R_alloc | apply Kd.R_drewN | apply Kd.R_drew)); exact HO195.out), (by (with_reducible repeat (first | refine blk_drewN ?_ _ | refine blk_drew ?_ | refine blk_alloc ?_ _)); exact BK189.out), (by (with_reducible repeat (first | refine blk_drewN ?_ _ | refine blk_drew ?_ | refine blk_alloc ?_ _)); exact BK205.out), GW205.out, GE205.out, NB189_205.out, NB205_189.out, (by repeat (first | (with_reducible first | exact HB.out | apply below_alloc | apply pw_below_drewN | apply below_drew1 | refine below_set ?_ GE189.out | refine below_set ?_ GE205.out) | exact HB.out))⟩)
                              · skip
                                rintro ⟨v191, v197, gb205⟩ w27 ⟨hS_, h0_, h1_, h2_, h3_, h4_, h5_, h6_, h7_, h8_⟩
                                have n0_ : Aside0 (Kd.R k36 36 w27 w.heap.size (fun k_ => some k_ ≠ (v197 : Value).ownBlock ∧ k_ ≠ gb189) v191 y190) := ⟨h0_⟩
                                have n1_ : Aside0 (Kd.R k36 36 w27 w.heap.size (fun k_ => some k_ ≠ (v191 : Value).ownBlock ∧ k_ ≠ gb189) v197 y196) := ⟨h1_⟩
                                have n2_ : Aside0 (w27.heap[gb189]? = some (.cells #[.string (⟨#[82, 101, 116, 114, 121, 45, 65, 102, 116, 101, 114]⟩ : ByteArray), .string a2] 36 (0, 0))) := ⟨h2_⟩
                                have n3_ : Aside0 (w27.heap[gb205]? = some (.cells #[.int .i64 0, .int .i64 0, .int .i64 0] 29 (0, 0))) := ⟨h3_⟩
                                have n4_ : Aside0 (w.heap.size ≤ gb205) := ⟨h4_⟩
                                have n5_ : Aside0 (w.heap.size ≤ gb205) := ⟨h5_⟩
                                have n6_ : Aside0 (gb189 ≠ gb205) := ⟨h6_⟩
                                have n7_ : Aside0 (gb205 ≠ gb189) := ⟨h7_⟩
                                have n8_ : Aside0 (Below w.heap.size w w27) := ⟨h8_⟩
                                clear BK189
                                clear HB
                                clear h0_ h1_ h2_ h3_ h4_ h5_ h6_ h7_ h8_
                                have HO192 := n0_
                                have HO198 := n1_
                                have BK189 := n2_
                                have BK205 := n3_
                                have GW205 := n4_
                                have GE205 := n5_
                                have NB189_205 := n6_
                                have NB205_189 := n7_
                                have HB := n8_
                                clear n0_ n1_ n2_ n3_ n4_ n5_ n6_ n7_ n8_
                                have hHeld : w27.cell? ⟨gb189, 0, none⟩ = some (.string (⟨#[82, 101, 116, 114, 121, 45, 65, 102, 116, 101, 114]⟩ : ByteArray)) ∧ w27.cell? ⟨gb189, 1, none⟩ = some (.string a2) := hS_
                                refine norm_ (a' := ?_) ?_ ?_
                                rotate_left
                                · simp only [putAll, Act.put, List.setIfInBounds_toArray, List.set_cons_zero, List.set_cons_succ]
                                  rfl
                                refine one_ (i := 3) (N := some 26) #[true, true, true, true, true, true, false, true, false, true, false] rfl rfl (one_of HT_.out (by kernel_rfl)) (by decide) (fun K hK => ?_)
                                refine Kd.R_append_rows_step k36 (w0 := w) w.heap.size (by rfl) (.tmp 24) (.tmp 25) 22 36 (.agg #[(.string ⟨#[]⟩), (.string ⟨#[]⟩)]) 32 rfl Tryz.underlying22 info36 rfl (by decide) (by omega) v191 y190 l1 _ _ _ (fun k_ => some k_ ≠ (v197 : Value).ownBlock ∧ k_ ≠ gb189) (fun _ => False) rfl rfl ?aO ?aR (fun _ _ h => h) (fun _ h => h.elim) ?aF ?aB ?aS ?aL ?_
                                (case aR => repeat (first | exact (Kd.C_below HR1.out HB.out) | (with_reducible refine Kd.C_alloc ?_ _) | (with_reducible refine Kd.C_drewN ?_ _) | (with_reducible refine Kd.C_drew ?_)))
                                (case aB => exact (by repeat (first | (with_reducible first | exact HB.out | apply below_alloc | apply pw_below_drewN | apply below_drew1 | refine below_set ?_ GE189.out | refine below_set ?_ GE205.out) | exact HB.out)))
                                (case aF => exact (fun k_ hk => ⟨Kd.fresh' (Kd.R_lt (by (with_reducible repeat (first | apply Kd.R_alloc | apply Kd.R_drewN | apply Kd.R_drew)); exact HO198.out)) k_ hk, Kd.freshB (g := gb189) (o := .cells #[.string (⟨#[82, 101, 116, 114, 121, 45, 65, 102, 116, 101, 114]⟩ : ByteArray), .string a2] 36 (0, 0)) (by (with_reducible repeat (first | refine blk_drewN ?_ _ | refine blk_drew ?_ | refine blk_alloc ?_ _)); exact BK189.out) k_ hk⟩))
                                (case aO => exact (by (with_reducible repeat (first | apply Kd.R_alloc | apply Kd.R_drewN | apply Kd.R_drew)); exact HO192.out))
                                (case aS => exact (below_size (by repeat (first | (with_reducible first | exact HB.out | apply below_alloc | apply pw_below_drewN | apply below_drew1 | refine below_set ?_ GE189.out | refine below_set ?_ GE205.out) | exact HB.out))))
                                (case aL => have := LMc11.out; omega)
                                intro v194 w28 ho hb hg hat
                                rw [← Ny193.out] at ho
                                have n0_ := Aside0.mk (blk_grown (g := gb189) (o := .cells #[.string (⟨#[82, 101, 116, 114, 121, 45, 65, 102, 116, 101, 114]⟩ : ByteArray), .string a2] 36 (0, 0)) (by (with_reducible repeat (first | refine blk_drewN ?_ _ | refine blk_drew ?_ | refine blk_alloc ?_ _)); exact BK189.out) hg (Kd.R_away HO192.out (fun _ hk => hk.2)))
                                have n1_ := Aside0.mk (Kd.R_after (ok := (fun k_ => k_ ≠ gb189)) (by (with_reducible repeat (first | apply Kd.R_alloc | apply Kd.R_drewN | apply Kd.R_drew)); exact Kd.R_mono HO198.out (fun _ hk => ⟨hk.2, hk.1⟩)) hg hat)
                                have n2_ := Aside0.mk (blk_grown (g := gb205) (o := .cells #[.int .i64 0, .int .i64 0, .int .i64 0] 29 (0, 0)) (by (with_reducible repeat (first | refine blk_drewN ?_ _ | refine blk_drew ?_ | refine blk_alloc ?_ _)); exact BK205.out) hg (Kd.R_ne HO192.out BK205.out (by decide)))
                                have n3_ := Aside0.mk (hb)
                                have n4_ := Aside0.mk (ho)
                                clear BK189
                                clear HO198
                                clear BK205
                                clear HB
                                clear HO192
                                have BK189 := n0_
                                have HO198 := n1_
                                have BK205 := n2_
                                have HB := n3_
                                have HO195 := n4_
                                clear n0_ n1_ n2_ n3_ n4_
                                clear ho hb hg hat
                                refine hK.out _ _ ⟨(blk_cell BK189.out 0).trans rfl, (blk_cell BK189.out 1).trans rfl⟩ (fun hHeld => ?_)
                                clear hK K
                                refine norm_ (a' := ?_) ?_ ?_
                                rotate_left
                                · show Act.put _ (some 26) _ = _
                                  simp only [Act.put, List.setIfInBounds_toArray, List.set_cons_zero, List.set_cons_succ, i64_w, i32_w]
                                  rfl
                                exact norm_ (by first | (simp only [putAll, Act.put, List.setIfInBounds_toArray, List.set_cons_zero, List.set_cons_succ]; done) | (simp only [putAll, Act.put, List.setIfInBounds_toArray, List.set_cons_zero, List.set_cons_succ]; rfl)) (hJ1_3_5_9 (v191, v194, v197, gb205) _ ⟨hHeld, (by (with_reducible repeat (first | apply Kd.R_alloc | apply Kd.R_drewN | apply Kd.R_drew)); exact HO195.out), (by (with_reducible repeat (first | apply Kd.R_alloc | apply Kd.R_drewN | apply Kd.R_drew)); exact Kd.R_mono HO198.out (fun _ hk => ⟨hk.2, hk.1⟩)), (by (with_reducible repeat (first | refine blk_drewN ?_ _ | refine blk_drew ?_ | refine blk_alloc ?_ _)); exact BK189.out), (by (with_reducible repeat (first | refine blk_drewN ?_ _ | refine blk_drew ?_ | refine blk_alloc ?_ _)); exact BK205.out), GW205.out, GE205.out, NB189_205.out, NB205_189.out, (by repeat (first | (with_reducible first | exact HB.out | apply below_alloc | apply pw_below_drewN | apply below_drew1 | refine below_set ?_ GE189.out | refine below_set ?_ GE205.out) | exact HB.out))⟩)
                            · skip
                              rintro ⟨v191, v194, gb205⟩ w26 ⟨hS_, h0_, h1_, h2_, h3_, h4_, h5_, h6_, h7_⟩
                              have n0_ : Aside0 (Kd.R k36 36 w26 w.heap.size (fun k_ => k_ ≠ gb189) v194 y193) := ⟨h0_⟩
                              have n1_ : Aside0 (w26.heap[gb189]? = some (.cells #[.string (⟨#[82, 101, 116, 114, 121, 45, 65, 102, 116, 101, 114]⟩ : ByteArray), .string a2] 36 (0, 0))) := ⟨h1_⟩
                              have n2_ : Aside0 (w26.heap[gb205]? = some (.cells #[.int .i64 0, .int .i64 0, .int .i64 0] 29 (0, 0))) := ⟨h2_⟩
                              have n3_ : Aside0 (w.heap.size ≤ gb205) := ⟨h3_⟩
                              have n4_ : Aside0 (w.heap.size ≤ gb205) := ⟨h4_⟩
                              have n5_ : Aside0 (gb189 ≠ gb205) := ⟨h5_⟩
                              have n6_ : Aside0 (gb205 ≠ gb189) := ⟨h6_⟩
                              have n7_ : Aside0 (Below w.heap.size w w26) := ⟨h7_⟩
                              clear BK189
                              clear HB
                              clear h0_ h1_ h2_ h3_ h4_ h5_ h6_ h7_
                              have HO195 := n0_
                              have BK189 := n1_
                              have BK205 := n2_
                              have GW205 := n3_
                              have GE205 := n4_
                              have NB189_205 := n5_
                              have NB205_189 := n6_
                              have HB := n7_
                              clear n0_ n1_ n2_ n3_ n4_ n5_ n6_ n7_
                              have hHeld : w26.cell? ⟨gb189, 0, none⟩ = some (.string (⟨#[82, 101, 116, 114, 121, 45, 65, 102, 116, 101, 114]⟩ : ByteArray)) ∧ w26.cell? ⟨gb189, 1, none⟩ = some (.string a2) := hS_
                              refine norm_ (a' := ?_) ?_ ?_
                              rotate_left
                              · simp only [putAll, Act.put, List.setIfInBounds_toArray, List.set_cons_zero, List.set_cons_succ]
                                rfl
                              refine one_ (i := 5) (N := some 28) #[true, true, true, true, true, true, false, true, false, true, false] rfl rfl (one_of HT_.out (by kernel_rfl)) (by decide) (fun K hK => ?_)
                              refine Kd.R_lit_step k36 _ 36 ?hg (N := 28) ?hd (xs := ([(⟨(⟨#[82, 101, 116, 114, 121, 45, 65, 102, 116, 101, 114]⟩ : ByteArray), a2⟩ : S36)] : List (S36))) (inner := [.string (⟨#[82, 101, 116, 114, 121, 45, 65, 102, 116, 101, 114]⟩ : ByteArray), .string a2]) (ok := fun _ => True) (okp := fun _ => True) ?hr ?hp (fun _ hk => hk) trivial (Below.refl _ _) (Nat.le_refl _) (by simp) ?_; (case hd => rfl); (case hg => rfl); (case hr => first | (go_simp; done) | (go_simp; rfl)); (case hp => exact (Reps.c2 (show Kd.M k36 _ _ _ (⟨(⟨#[82, 101, 116, 114, 121, 45, 65, 102, 116, 101, 114]⟩ : ByteArray), a2⟩ : S36) [.string (⟨#[82, 101, 116, 114, 121, 45, 65, 102, 116, 101, 114]⟩ : ByteArray), .string a2] from (k36_mkM _ _ _ (⟨(⟨#[82, 101, 116, 114, 121, 45, 65, 102, 116, 101, 114]⟩ : ByteArray), a2⟩ : S36) )) (Reps.none _ _)))
                              intro v197 w27 ho28 hb hg_ hnew_
                              clear hg_ hnew_
                              (first | rw [← Ny196.out] at ho28 | (simp only [Int.reduceToNat] at ho28; rw [← Ny196.out] at ho28))
                              have n0_ := Aside0.mk (Kd.R_elder' (by (with_reducible repeat (first | apply Kd.R_alloc | apply Kd.R_drewN | apply Kd.R_drew)); exact HO195.out) (Kd.R_base ho28) hb)
                              have n1_ := Aside0.mk (Kd.R_lower (Kd.R_newB (Kd.R_new' ho28 (Kd.R_lt (by (with_reducible repeat (first | apply Kd.R_alloc | apply Kd.R_drewN | apply Kd.R_drew)); exact HO195.out))) (g := gb189) (o := .cells #[.string (⟨#[82, 101, 116, 114, 121, 45, 65, 102, 116, 101, 114]⟩ : ByteArray), .string a2] 36 (0, 0)) (by (with_reducible repeat (first | refine blk_drewN ?_ _ | refine blk_drew ?_ | refine blk_alloc ?_ _)); exact BK189.out)) (below_size (by repeat (first | (with_reducible first | exact HB.out | apply below_alloc | apply pw_below_drewN | apply below_drew1 | refine below_set ?_ GE189.out | refine below_set ?_ GE205.out) | exact HB.out))))
                              have n2_ := Aside0.mk (blk_below (g := gb189) (o := .cells #[.string (⟨#[82, 101, 116, 114, 121, 45, 65, 102, 116, 101, 114]⟩ : ByteArray), .string a2] 36 (0, 0)) (by (with_reducible repeat (first | refine blk_drewN ?_ _ | refine blk_drew ?_ | refine blk_alloc ?_ _)); exact BK189.out) hb)
                              have n3_ := Aside0.mk (blk_below (g := gb205) (o := .cells #[.int .i64 0, .int .i64 0, .int .i64 0] 29 (0, 0)) (by (with_reducible repeat (first | refine blk_drewN ?_ _ | refine blk_drew ?_ | refine blk_alloc ?_ _)); exact BK205.out) hb)
                              have n4_ := Aside0.mk (below_step (by repeat (first | (with_reducible first | exact HB.out | apply below_alloc | apply pw_below_drewN | apply below_drew1 | refine below_set ?_ GE189.out | refine below_set ?_ GE205.out) | exact HB.out)) hb)
                              clear HO195
                              clear BK189
                              clear BK205
                              clear HB
                              have HO195 := n0_
                              have HO198 := n1_
                              have BK189 := n2_
                              have BK205 := n3_
                              have HB := n4_
                              clear n0_ n1_ n2_ n3_ n4_
                              clear hb ho28
                              refine hK.out _ _ ⟨(blk_cell BK189.out 0).trans rfl, (blk_cell BK189.out 1).trans rfl⟩ (fun hHeld => ?_)
                              clear hK K
                              refine norm_ (a' := ?_) ?_ ?_
                              rotate_left
                              · show Act.put _ (some 28) _ = _
                                simp only [Act.put, List.setIfInBounds_toArray, List.set_cons_zero, List.set_cons_succ, i64_w, i32_w]
                                rfl
                              exact norm_ (by first | (simp only [putAll, Act.put, List.setIfInBounds_toArray, List.set_cons_zero, List.set_cons_succ]; done) | (simp only [putAll, Act.put, List.setIfInBounds_toArray, List.set_cons_zero, List.set_cons_succ]; rfl)) (hJ1_3_5_9 (v191, v194, v197, gb205) _ ⟨hHeld, (by (with_reducible repeat (first | apply Kd.R_alloc | apply Kd.R_drewN | apply Kd.R_drew)); exact Kd.R_mono HO195.out (fun _ hk => ⟨hk.2, hk.1⟩)), (by (with_reducible repeat (first | apply Kd.R_alloc | apply Kd.R_drewN | apply Kd.R_drew)); exact Kd.R_mono HO198.out (fun _ hk => ⟨hk.1.2, hk.2⟩)), (by (with_reducible repeat (first | refine blk_drewN ?_ _ | refine blk_drew ?_ | refine blk_alloc ?_ _)); exact BK189.out), (by (with_reducible repeat (first | refine blk_drewN ?_ _ | refine blk_drew ?_ | refine blk_alloc ?_ _)); exact BK205.out), GW205.out, GE205.out, NB189_205.out, NB205_189.out, (by repeat (first | (with_reducible first | exact HB.out | apply below_alloc | apply pw_below_drewN | apply below_drew1 | refine below_set ?_ GE189.out | refine below_set ?_ GE205.out) | exact HB.out))⟩)
                          · skip
                            rintro ⟨v191, v194, v197⟩ w27 ⟨hS_, h0_, h1_, h2_, h3_⟩
                            have n0_ : Aside0 (Kd.R k36 36 w27 w.heap.size (fun k_ => some k_ ≠ (v197 : Value).ownBlock ∧ k_ ≠ gb189) v194 y193) := ⟨h0_⟩
                            have n1_ : Aside0 (Kd.R k36 36 w27 w.heap.size (fun k_ => some k_ ≠ (v194 : Value).ownBlock ∧ k_ ≠ gb189) v197 y196) := ⟨h1_⟩
                            have n2_ : Aside0 (w27.heap[gb189]? = some (.cells #[.string (⟨#[82, 101, 116, 114, 121, 45, 65, 102, 116, 101, 114]⟩ : ByteArray), .string a2] 36 (0, 0))) := ⟨h2_⟩
                            have n3_ : Aside0 (Below w.heap.size w w27) := ⟨h3_⟩
                            clear BK189
                            clear HB
                            clear h0_ h1_ h2_ h3_
                            have HO195 := n0_
                            have HO198 := n1_
                            have BK189 := n2_
                            have HB := n3_
                            clear n0_ n1_ n2_ n3_
                            have hHeld : w27.cell? ⟨gb189, 0, none⟩ = some (.string (⟨#[82, 101, 116, 114, 121, 45, 65, 102, 116, 101, 114]⟩ : ByteArray)) ∧ w27.cell? ⟨gb189, 1, none⟩ = some (.string a2) := hS_
                            obtain ⟨Ao29, co29, eo29⟩ := Kd.R_slice HO198.out
                            (first | subst eo29 | (injection eo29 with f1_ f2_ f3_; have f4_ := f1_.symm; have f5_ := f3_.symm; clear f1_ f2_ f3_; subst f4_; subst f5_))
                            refine norm_ (a' := ?_) ?_ ?_
                            rotate_left
                            · simp only [putAll, Act.put, List.setIfInBounds_toArray, List.set_cons_zero, List.set_cons_succ]
                              rfl
                            refine two_ (i := 6) (j := 9) (Ni := some 29) (Nj := some 10) #[true, true, true, true, true, true, true, true, false, false, false] #[true, true, true, true, true, true, false, true, false, true, false] rfl rfl rfl rfl (two_of HT_.out (by kernel_rfl)) (by decide) (by decide) (fun K hK => ?_) (fun K hK => ?_)
                            · skip
                              refine Kd.R_append_rows_step k36 (w0 := w) w.heap.size (by rfl) (.tmp 26) (.tmp 28) 22 36 (.agg #[(.string ⟨#[]⟩), (.string ⟨#[]⟩)]) 32 rfl Tryz.underlying22 info36 rfl (by decide) (by omega) v194 y193 y196 _ _ _ (fun k_ => some k_ ≠ (.slice Ao29 y196.length co29 : Value).ownBlock ∧ k_ ≠ gb189) (fun _ => False) rfl rfl ?aO ?aR (fun _ _ h => h) (fun _ h => h.elim) ?aF ?aB ?aS ?aL ?_
                              (case aR => repeat (first | exact (Kd.R_reads' HO198.out).2.2 | (with_reducible refine Kd.C_alloc ?_ _) | (with_reducible refine Kd.C_drewN ?_ _) | (with_reducible refine Kd.C_drew ?_)))
                              (case aB => exact (by repeat (first | (with_reducible first | exact HB.out | apply below_alloc | apply pw_below_drewN | apply below_drew1 | refine below_set ?_ GE189.out) | exact HB.out)))
                              (case aF => exact (fun k_ hk => ⟨Kd.fresh' (Kd.R_lt (by (with_reducible repeat (first | apply Kd.R_alloc | apply Kd.R_drewN | apply Kd.R_drew)); exact HO198.out)) k_ hk, Kd.freshB (g := gb189) (o := .cells #[.string (⟨#[82, 101, 116, 114, 121, 45, 65, 102, 116, 101, 114]⟩ : ByteArray), .string a2] 36 (0, 0)) (by (with_reducible repeat (first | refine blk_drewN ?_ _ | refine blk_drew ?_ | refine blk_alloc ?_ _)); exact BK189.out) k_ hk⟩))
                              (case aO => exact (by (with_reducible repeat (first | apply Kd.R_alloc | apply Kd.R_drewN | apply Kd.R_drew)); exact HO195.out))
                              (case aS => exact (below_size (by repeat (first | (with_reducible first | exact HB.out | apply below_alloc | apply pw_below_drewN | apply below_drew1 | refine below_set ?_ GE189.out) | exact HB.out))))
                              (case aL => have := LMc12.out; omega)
                              intro v200 w28 ho hb hg hat
                              rw [← Ny199.out] at ho
                              have n0_ := Aside0.mk (blk_grown (g := gb189) (o := .cells #[.string (⟨#[82, 101, 116, 114, 121, 45, 65, 102, 116, 101, 114]⟩ : ByteArray), .string a2] 36 (0, 0)) (by (with_reducible repeat (first | refine blk_drewN ?_ _ | refine blk_drew ?_ | refine blk_alloc ?_ _)); exact BK189.out) hg (Kd.R_away HO195.out (fun _ hk => hk.2)))
                              have n1_ := Aside0.mk (Kd.R_after (ok := (fun k_ => k_ ≠ gb189)) (by (with_reducible repeat (first | apply Kd.R_alloc | apply Kd.R_drewN | apply Kd.R_drew)); exact Kd.R_mono HO198.out (fun _ hk => ⟨hk.2, hk.1⟩)) hg hat)
                              have n2_ := Aside0.mk (hb)
                              have n3_ := Aside0.mk (ho)
                              clear BK189
                              clear HO198
                              clear HB
                              clear HO195
                              have BK189 := n0_
                              have HO198 := n1_
                              have HB := n2_
                              have HO201 := n3_
                              clear n0_ n1_ n2_ n3_
                              clear ho hb hg hat
                              refine hK.out _ _ ⟨(blk_cell BK189.out 0).trans rfl, (blk_cell BK189.out 1).trans rfl⟩ (fun hHeld => ?_)
                              clear hK K
                              refine norm_ (a' := ?_) ?_ ?_
                              rotate_left
                              · show Act.put _ (some 29) _ = _
                                simp only [Act.put, List.setIfInBounds_toArray, List.set_cons_zero, List.set_cons_succ, i64_w, i32_w]
                                rfl
                              exact norm_ (by first | (simp only [putAll, Act.put, List.setIfInBounds_toArray, List.set_cons_zero, List.set_cons_succ]; done) | (simp only [putAll, Act.put, List.setIfInBounds_toArray, List.set_cons_zero, List.set_cons_succ]; rfl)) (hJ1_3_5_6 (v191, v194, .slice Ao29 y196.length co29, v200) _ ⟨hHeld, (by (with_reducible repeat (first | apply Kd.R_alloc | apply Kd.R_drewN | apply Kd.R_drew)); exact Kd.R_mono HO198.out (fun _ hk => ⟨hk.2, hk.1⟩)), (by (with_reducible repeat (first | apply Kd.R_alloc | apply Kd.R_drewN | apply Kd.R_drew)); exact HO201.out), (by (with_reducible repeat (first | refine blk_drewN ?_ _ | refine blk_drew ?_ | refine blk_alloc ?_ _)); exact BK189.out), (by repeat (first | (with_reducible first | exact HB.out | apply below_alloc | apply pw_below_drewN | apply below_drew1 | refine below_set ?_ GE189.out) | exact HB.out))⟩)
                            · skip
                              refine box_step ?hg (N := 10) ?hd (cs := #[.int .i64 0, .int .i64 0, .int .i64 0]) (t := 29) ?hr ?_; (case hd => rfl); (case hg => rfl); (case hr => first | (go_simp; done) | (go_simp; rfl))
                              intro gb205 hg w28 hbox hb
                              have n0_ := Aside0.mk (Kd.R_below (by (with_reducible repeat (first | apply Kd.R_alloc | apply Kd.R_drewN | apply Kd.R_drew)); exact HO195.out) hb)
                              have n1_ := Aside0.mk (Kd.R_below (by (with_reducible repeat (first | apply Kd.R_alloc | apply Kd.R_drewN | apply Kd.R_drew)); exact HO198.out) hb)
                              have n2_ := Aside0.mk (blk_below (g := gb189) (o := .cells #[.string (⟨#[82, 101, 116, 114, 121, 45, 65, 102, 116, 101, 114]⟩ : ByteArray), .string a2] 36 (0, 0)) (by (with_reducible repeat (first | refine blk_drewN ?_ _ | refine blk_drew ?_ | refine blk_alloc ?_ _)); exact BK189.out) hb)
                              have n3_ := Aside0.mk (below_step (by repeat (first | (with_reducible first | exact HB.out | apply below_alloc | apply pw_below_drewN | apply below_drew1 | refine below_set ?_ GE189.out) | exact HB.out)) hb)
                              have n4_ := Aside0.mk (hbox)
                              have n5_ := Aside0.mk ((by rw [hg]; exact (below_size (by repeat (first | (with_reducible first | exact HB.out | apply below_alloc | apply pw_below_drewN | apply below_drew1 | refine below_set ?_ GE189.out) | exact HB.out))) : w.heap.size ≤ gb205))
                              have n6_ := Aside0.mk ((by rw [hg]; exact (below_size (by repeat (first | (with_reducible first | exact HB.out | apply below_alloc | apply pw_below_drewN | apply below_drew1 | refine below_set ?_ GE189.out) | exact HB.out))) : w.heap.size ≤ gb205))
                              have n7_ := Aside0.mk ((by rw [hg]; exact Nat.ne_of_lt (blk_lt (g := gb189) (o := .cells #[.string (⟨#[82, 101, 116, 114, 121, 45, 65, 102, 116, 101, 114]⟩ : ByteArray), .string a2] 36 (0, 0)) (by (with_reducible repeat (first | refine blk_drewN ?_ _ | refine blk_drew ?_ | refine blk_alloc ?_ _)); exact BK189.out)) : gb189 ≠ gb205))
                              have n8_ := Aside0.mk ((by rw [hg]; exact Nat.ne_of_gt (blk_lt (g := gb189) (o := .cells #[.string (⟨#[82, 101, 116, 114, 121, 45, 65, 102, 116, 101, 114]⟩ : ByteArray), .string a2] 36 (0, 0)) (by (with_reducible repeat (first | refine blk_drewN ?_ _ | refine blk_drew ?_ | refine blk_alloc ?_ _)); exact BK189.out)) : gb205 ≠ gb189))
                              clear HO195
                              clear HO198
                              clear BK189
                              clear HB
                              have HO195 := n0_
                              have HO198 := n1_
                              have BK189 := n2_
                              have HB := n3_
                              have BK205 := n4_
                              have GW205 := n5_
                              have GE205 := n6_
                              have NB189_205 := n7_
                              have NB205_189 := n8_
                              clear n0_ n1_ n2_ n3_ n4_ n5_ n6_ n7_ n8_
                              clear hb hbox hg
                              refine hK.out _ _ ⟨(blk_cell BK189.out 0).trans rfl, (blk_cell BK189.out 1).trans rfl⟩ (fun hHeld => ?_)
                              clear hK K
                              refine norm_ (a' := ?_) ?_ ?_
                              rotate_left
                              · show Act.put _ (some 10) _ = _
                                simp only [Act.put, List.setIfInBounds_toArray, List.set_cons_zero, List.set_cons_succ, i64_w, i32_w]
                                rfl
                              exact norm_ (by first | (simp only [putAll, Act.put, List.setIfInBounds_toArray, List.set_cons_zero, List.set_cons_succ]; done) | (simp only [putAll, Act.put, List.setIfInBounds_toArray, List.set_cons_zero, List.set_cons_succ]; rfl)) (hJ1_3_5_9 (v191, v194, (.slice Ao29 y196.length co29 : Value), gb205) _ ⟨hHeld, (by (with_reducible repeat (first | apply Kd.R_alloc | apply Kd.R_drewN | apply Kd.R_drew)); exact HO195.out), (by (with_reducible repeat (first | apply Kd.R_alloc | apply Kd.R_drewN | apply Kd.R_drew)); exact HO198.out), (by (with_reducible repeat (first | refine blk_drewN ?_ _ | refine blk_drew ?_ | refine blk_alloc ?_ _)); exact BK189.out), (by (with_reducible repeat (first | refine blk_drewN ?_ _ | refine blk_drew ?_ | refine blk_alloc ?_ _)); exact BK205.out), GW205.out, GE205.out, NB189_205.out, NB205_189.out, (by repeat (first | (with_reducible first | exact HB.out | apply below_alloc | apply pw_below_drewN | apply below_drew1 | refine below_set ?_ GE189.out | refine below_set ?_ GE205.out) | exact HB.out))⟩)
                        · skip
                          rintro ⟨v191, v194, v197, gb205⟩ w28 ⟨hS_, h0_, h1_, h2_, h3_, h4_, h5_, h6_, h7_, h8_⟩
                          have n0_ : Aside0 (Kd.R k36 36 w28 w.heap.size (fun k_ => some k_ ≠ (v197 : Value).ownBlock ∧ k_ ≠ gb189) v194 y193) := ⟨h0_⟩
                          have n1_ : Aside0 (Kd.R k36 36 w28 w.heap.size (fun k_ => some k_ ≠ (v194 : Value).ownBlock ∧ k_ ≠ gb189) v197 y196) := ⟨h1_⟩
                          have n2_ : Aside0 (w28.heap[gb189]? = some (.cells #[.string (⟨#[82, 101, 116, 114, 121, 45, 65, 102, 116, 101, 114]⟩ : ByteArray), .string a2] 36 (0, 0))) := ⟨h2_⟩
                          have n3_ : Aside0 (w28.heap[gb205]? = some (.cells #[.int .i64 0, .int .i64 0, .int .i64 0] 29 (0, 0))) := ⟨h3_⟩
                          have n4_ : Aside0 (w.heap.size ≤ gb205) := ⟨h4_⟩
                          have n5_ : Aside0 (w.heap.size ≤ gb205) := ⟨h5_⟩
                          have n6_ : Aside0 (gb189 ≠ gb205) := ⟨h6_⟩
                          have n7_ : Aside0 (gb205 ≠ gb189) := ⟨h7_⟩
                          have n8_ : Aside0 (Below w.heap.size w w28) := ⟨h8_⟩
                          clear BK189
                          clear HB
                          clear h0_ h1_ h2_ h3_ h4_ h5_ h6_ h7_ h8_
                          have HO195 := n0_
                          have HO198 := n1_
                          have BK189 := n2_
                          have BK205 := n3_
                          have GW205 := n4_
                          have GE205 := n5_
                          have NB189_205 := n6_
                          have NB205_189 := n7_
                          have HB := n8_
                          clear n0_ n1_ n2_ n3_ n4_ n5_ n6_ n7_ n8_
                          have hHeld : w28.cell? ⟨gb189, 0, none⟩ = some (.string (⟨#[82, 101, 116, 114, 121, 45, 65, 102, 116, 101, 114]⟩ : ByteArray)) ∧ w28.cell? ⟨gb189, 1, none⟩ = some (.string a2) := hS_
                          obtain ⟨Ao30, co30, eo30⟩ := Kd.R_slice HO198.out
                          (first | subst eo30 | (injection eo30 with f1_ f2_ f3_; have f4_ := f1_.symm; have f5_ := f3_.symm; clear f1_ f2_ f3_; subst f4_; subst f5_))
                          refine norm_ (a' := ?_) ?_ ?_
                          rotate_left
                          · simp only [putAll, Act.put, List.setIfInBounds_toArray, List.set_cons_zero, List.set_cons_succ]
                            rfl
                          refine one_ (i := 6) (N := some 29) #[true, true, true, true, true, true, true, true, false, true, false] rfl rfl (one_of HT_.out (by kernel_rfl)) (by decide) (fun K hK => ?_)
                          refine Kd.R_append_rows_step k36 (w0 := w) w.heap.size (by rfl) (.tmp 26) (.tmp 28) 22 36 (.agg #[(.string ⟨#[]⟩), (.string ⟨#[]⟩)]) 32 rfl Tryz.underlying22 info36 rfl (by decide) (by omega) v194 y193 y196 _ _ _ (fun k_ => some k_ ≠ (.slice Ao30 y196.length co30 : Value).ownBlock ∧ k_ ≠ gb189) (fun _ => False) rfl rfl ?aO ?aR (fun _ _ h => h) (fun _ h => h.elim) ?aF ?aB ?aS ?aL ?_
                          (case aR => repeat (first | exact (Kd.R_reads' HO198.out).2.2 | (with_reducible refine Kd.C_alloc ?_ _) | (with_reducible refine Kd.C_drewN ?_ _) | (with_reducible refine Kd.C_drew ?_)))
                          (case aB => exact (by repeat (first | (with_reducible first | exact HB.out | apply below_alloc | apply pw_below_drewN | apply below_drew1 | refine below_set ?_ GE189.out | refine below_set ?_ GE205.out) | exact HB.out)))
                          (case aF => exact (fun k_ hk => ⟨Kd.fresh' (Kd.R_lt (by (with_reducible repeat (first | apply Kd.R_alloc | apply Kd.R_drewN | apply Kd.R_drew)); exact HO198.out)) k_ hk, Kd.freshB (g := gb189) (o := .cells #[.string (⟨#[82, 101, 116, 114, 121, 45, 65, 102, 116, 101, 114]⟩ : ByteArray), .string a2] 36 (0, 0)) (by (with_reducible repeat (first | refine blk_drewN ?_ _ | refine blk_drew ?_ | refine blk_alloc ?_ _)); exact BK189.out) k_ hk⟩))
                          (case aO => exact (by (with_reducible repeat (first | apply Kd.R_alloc | apply Kd.R_drewN | apply Kd.R_drew)); exact HO195.out))
                          (case aS => exact (below_size (by repeat (first | (with_reducible first | exact HB.out | apply below_alloc | apply pw_below_drewN | apply below_drew1 | refine below_set ?_ GE189.out | refine below_set ?_ GE205.out) | exact HB.out))))
                          (case aL => have := LMc12.out; omega)
                          intro v200 w29 ho hb hg hat
                          rw [← Ny199.out] at ho
                          have n0_ := Aside0.mk (blk_grown (g := gb189) (o := .cells #[.string (⟨#[82, 101, 116, 114, 121, 45, 65, 102, 116, 101, 114]⟩ : ByteArray), .string a2] 36 (0, 0)) (by (with_reducible repeat (first | refine blk_drewN ?_ _ | refine blk_drew ?_ | refine blk_alloc ?_ _)); exact BK189.out) hg (Kd.R_away HO195.out (fun _ hk => hk.2)))
                          have n1_ := Aside0.mk (Kd.R_after (ok := (fun k_ => k_ ≠ gb189)) (by (with_reducible repeat (first | apply Kd.R_alloc | apply Kd.R_drewN | apply Kd.R_drew)); exact Kd.R_mono HO198.out (fun _ hk => ⟨hk.2, hk.1⟩)) hg hat)
                          have n2_ := Aside0.mk (blk_grown (g := gb205) (o := .cells #[.int .i64 0, .int .i64 0, .int .i64 0] 29 (0, 0)) (by (with_reducible repeat (first | refine blk_drewN ?_ _ | refine blk_drew ?_ | refine blk_alloc ?_ _)); exact BK205.out) hg (Kd.R_ne HO195.out BK205.out (by decide)))
                          have n3_ := Aside0.mk (hb)
                          have n4_ := Aside0.mk (ho)
                          clear BK189
                          clear HO198
                          clear BK205
                          clear HB
                          clear HO195
                          have BK189 := n0_
                          have HO198 := n1_
                          have BK205 := n2_
                          have HB := n3_
                          have HO201 := n4_
                          clear n0_ n1_ n2_ n3_ n4_
                          clear ho hb hg hat
                          refine hK.out _ _ ⟨(blk_cell BK189.out 0).trans rfl, (blk_cell BK189.out 1).trans rfl⟩ (fun hHeld => ?_)
                          clear hK K
                          refine norm_ (a' := ?_) ?_ ?_
                          rotate_left
                          · show Act.put _ (some 29) _ = _
                            simp only [Act.put, List.setIfInBounds_toArray, List.set_cons_zero, List.set_cons_succ, i64_w, i32_w]
                            rfl
                          exact norm_ (by first | (simp only [putAll, Act.put, List.setIfInBounds_toArray, List.set_cons_zero, List.set_cons_succ]; done) | (simp only [putAll, Act.put, List.setIfInBounds_toArray, List.set_cons_zero, List.set_cons_succ]; rfl)) (hJ1_3_5_6_9 (v191, v194, .slice Ao30 y196.length co30, v200, gb205) _ ⟨hHeld, (by (with_reducible repeat (first | apply Kd.R_alloc | apply Kd.R_drewN | apply Kd.R_drew)); exact Kd.R_mono HO198.out (fun _ hk => ⟨hk.2, hk.1⟩)), (by (with_reducible repeat (first | apply Kd.R_alloc | apply Kd.R_drewN | apply Kd.R_drew)); exact HO201.out), (by (with_reducible repeat (first | refine blk_drewN ?_ _ | refine blk_drew ?_ | refine blk_alloc ?_ _)); exact BK189.out), (by (with_reducible repeat (first | refine blk_drewN ?_ _ | refine blk_drew ?_ | refine blk_alloc ?_ _)); exact BK205.out), GW205.out, GE205.out, NB189_205.out, NB205_189.out, (by repeat (first | (with_reducible first | exact HB.out | apply below_alloc | apply pw_below_drewN | apply below_drew1 | refine below_set ?_ GE189.out | refine below_set ?_ GE205.out) | exact HB.out))⟩)
                      · skip
                        rintro ⟨v191, v194, v197, v200⟩ w29 ⟨hS_, h0_, h1_, h2_, h3_⟩
                        have n0_ : Aside0 (Kd.R k36 36 w29 w.heap.size (fun k_ => some k_ ≠ (v200 : Value).ownBlock ∧ k_ ≠ gb189) v197 y196) := ⟨h0_⟩
                        have n1_ : Aside0 (Kd.R k36 36 w29 w.heap.size (fun k_ => some k_ ≠ (v197 : Value).ownBlock ∧ k_ ≠ gb189) v200 y199) := ⟨h1_⟩
                        have n2_ : Aside0 (w29.heap[gb189]? = some (.cells #[.string (⟨#[82, 101, 116, 114, 121, 45, 65, 102, 116, 101, 114]⟩ : ByteArray), .string a2] 36 (0, 0))) := ⟨h2_⟩
                        have n3_ : Aside0 (Below w.heap.size w w29) := ⟨h3_⟩
                        clear BK189
                        clear HB
                        clear h0_ h1_ h2_ h3_
                        have HO198 := n0_
                        have HO201 := n1_
                        have BK189 := n2_
                        have HB := n3_
                        clear n0_ n1_ n2_ n3_
                        have hHeld : w29.cell? ⟨gb189, 0, none⟩ = some (.string (⟨#[82, 101, 116, 114, 121, 45, 65, 102, 116, 101, 114]⟩ : ByteArray)) ∧ w29.cell? ⟨gb189, 1, none⟩ = some (.string a2) := hS_
                        obtain ⟨Ao30, co30, eo30⟩ := Kd.R_slice HO201.out
                        (first | subst eo30 | (injection eo30 with f1_ f2_ f3_; have f4_ := f1_.symm; have f5_ := f3_.symm; clear f1_ f2_ f3_; subst f4_; subst f5_))
                        refine norm_ (a' := ?_) ?_ ?_
                        rotate_left
                        · simp only [putAll, Act.put, List.setIfInBounds_toArray, List.set_cons_zero, List.set_cons_succ]
                          rfl
                        refine two_ (i := 8) (j := 9) (Ni := some 31) (Nj := some 10) #[true, true, true, true, true, true, true, true, true, false, false] #[true, true, true, true, true, true, true, true, false, true, false] rfl rfl rfl rfl (two_of HT_.out (by kernel_rfl)) (by decide) (by decide) (fun K hK => ?_) (fun K hK => ?_)
                        · skip
                          refine goes_ Tryz.func12 (by kernel_rfl) rfl #[.int .i64 a0, .slice Ao30 y199.length co30, .int .i64 a3] (by rfl) rfl rfl (by (try simp only [List.map_toArray, List.map_cons, List.map_nil]); first | done | rfl | (simp only [List.length_drop, List.length_take]; rfl)) ?_
                          with_reducible refine (feed_From.calls kj4 a0 _ _ y199 a3 t202 t203 t204 _ ?side3 ?side1 ?side2 A13.out).mono ?_
                          (case side1 => repeat (first | exact (Kd.R_reads' HO201.out).2.2 | (with_reducible refine Kd.C_alloc ?_ _) | (with_reducible refine Kd.C_drewN ?_ _) | (with_reducible refine Kd.C_drew ?_)))
                          (case side2 => exact (Kd.R_reads' HO201.out).2.1)
                          (case side3 => exact HG.out.below (by repeat (first | (with_reducible first | exact HB.out | apply below_alloc | apply pw_below_drewN | apply below_drew1 | refine below_set ?_ GE189.out) | exact HB.out)))
                          rintro e w31 ⟨rfl, hb⟩
                          refine ⟨_, rfl, ?_⟩
                          have n0_ := Aside0.mk (Kd.R_below (by (with_reducible repeat (first | apply Kd.R_alloc | apply Kd.R_drewN | apply Kd.R_drew)); exact HO198.out) hb)
                          have n1_ := Aside0.mk (Kd.R_below (by (with_reducible repeat (first | apply Kd.R_alloc | apply Kd.R_drewN | apply Kd.R_drew)); exact HO201.out) hb)
                          have n2_ := Aside0.mk (blk_below (g := gb189) (o := .cells #[.string (⟨#[82, 101, 116, 114, 121, 45, 65, 102, 116, 101, 114]⟩ : ByteArray), .string a2] 36 (0, 0)) (by (with_reducible repeat (first | refine blk_drewN ?_ _ | refine blk_drew ?_ | refine blk_alloc ?_ _)); exact BK189.out) hb)
                          have n3_ := Aside0.mk (below_step (by repeat (first | (with_reducible first | exact HB.out | apply below_alloc | apply pw_below_drewN | apply below_drew1 | refine below_set ?_ GE189.out) | exact HB.out)) hb)
                          clear HO198
                          clear HO201
                          clear BK189
                          clear HB
                          have HO198 := n0_
                          have HO201 := n1_
                          have BK189 := n2_
                          have HB := n3_
                          clear n0_ n1_ n2_ n3_
                          (try clear hb)
                          (try clear hb2)
                          (try clear hk)
                          (try clear hi)
                          refine hK.out _ _ ⟨(blk_cell BK189.out 0).trans rfl, (blk_cell BK189.out 1).trans rfl⟩ (fun hHeld => ?_)
                          clear hK K
                          refine norm_ (a' := ?_) ?_ ?_
                          rotate_left
                          · show Act.put _ (some 31) _ = _
                            simp only [Act.put, List.setIfInBounds_toArray, List.set_cons_zero, List.set_cons_succ, i64_w, i32_w]
                            rfl
                          exact norm_ (by first | (simp only [putAll, Act.put, List.setIfInBounds_toArray, List.set_cons_zero, List.set_cons_succ]; done) | (simp only [putAll, Act.put, List.setIfInBounds_toArray, List.set_cons_zero, List.set_cons_succ]; rfl)) (hJ1_3_5_6_8 (v191, v194, v197, .slice Ao30 y199.length co30) _ ⟨hHeld, (by (with_reducible repeat (first | apply Kd.R_alloc | apply Kd.R_drewN | apply Kd.R_drew)); exact HO198.out), (by (with_reducible repeat (first | apply Kd.R_alloc | apply Kd.R_drewN | apply Kd.R_drew)); exact HO201.out), (by (with_reducible repeat (first | refine blk_drewN ?_ _ | refine blk_drew ?_ | refine blk_alloc ?_ _)); exact BK189.out), (by repeat (first | (with_reducible first | exact HB.out | apply below_alloc | apply pw_below_drewN | apply below_drew1 | refine below_set ?_ GE189.out) | exact HB.out))⟩)
                        · skip
                          refine box_step ?hg (N := 10) ?hd (cs := #[.int .i64 0, .int .i64 0, .int .i64 0]) (t := 29) ?hr ?_; (case hd => rfl); (case hg => rfl); (case hr => first | (go_simp; done) | (go_simp; rfl))
                          intro gb205 hg w30 hbox hb
                          have n0_ := Aside0.mk (Kd.R_below (by (with_reducible repeat (first | apply Kd.R_alloc | apply Kd.R_drewN | apply Kd.R_drew)); exact HO198.out) hb)
                          have n1_ := Aside0.mk (Kd.R_below (by (with_reducible repeat (first | apply Kd.R_alloc | apply Kd.R_drewN | apply Kd.R_drew)); exact HO201.out) hb)
                          have n2_ := Aside0.mk (blk_below (g := gb189) (o := .cells #[.string (⟨#[82, 101, 116, 114, 121, 45, 65, 102, 116, 101, 114]⟩ : ByteArray), .string a2] 36 (0, 0)) (by (with_reducible repeat (first | refine blk_drewN ?_ _ | refine blk_drew ?_ | refine blk_alloc ?_ _)); exact BK189.out) hb)
                          have n3_ := Aside0.mk (below_step (by repeat (first | (with_reducible first | exact HB.out | apply below_alloc | apply pw_below_drewN | apply below_drew1 | refine below_set ?_ GE189.out) | exact HB.out)) hb)
                          have n4_ := Aside0.mk (hbox)
                          have n5_ := Aside0.mk ((by rw [hg]; exact (below_size (by repeat (first | (with_reducible first | exact HB.out | apply below_alloc | apply pw_below_drewN | apply below_drew1 | refine below_set ?_ GE189.out) | exact HB.out))) : w.heap.size ≤ gb205))
                          have n6_ := Aside0.mk ((by rw [hg]; exact (below_size (by repeat (first | (with_reducible first | exact HB.out | apply below_alloc | apply pw_below_drewN | apply below_drew1 | refine below_set ?_ GE189.out) | exact HB.out))) : w.heap.size ≤ gb205))
                          have n7_ := Aside0.mk ((by rw [hg]; exact Nat.ne_of_lt (blk_lt (g := gb189) (o := .cells #[.string (⟨#[82, 101, 116, 114, 121, 45, 65, 102, 116, 101, 114]⟩ : ByteArray), .string a2] 36 (0, 0)) (by (with_reducible repeat (first | refine blk_drewN ?_ _ | refine blk_drew ?_ | refine blk_alloc ?_ _)); exact BK189.out)) : gb189 ≠ gb205))
                          have n8_ := Aside0.mk ((by rw [hg]; exact Nat.ne_of_gt (blk_lt (g := gb189) (o := .cells #[.string (⟨#[82, 101, 116, 114, 121, 45, 65, 102, 116, 101, 114]⟩ : ByteArray), .string a2] 36 (0, 0)) (by (with_reducible repeat (first | refine blk_drewN ?_ _ | refine blk_drew ?_ | refine blk_alloc ?_ _)); exact BK189.out)) : gb205 ≠ gb189))
                          clear HO198
                          clear HO201
                          clear BK189
                          clear HB
                          have HO198 := n0_
                          have HO201 := n1_
                          have BK189 := n2_
                          have HB := n3_
                          have BK205 := n4_
                          have GW205 := n5_
                          have GE205 := n6_
                          have NB189_205 := n7_
                          have NB205_189 := n8_
                          clear n0_ n1_ n2_ n3_ n4_ n5_ n6_ n7_ n8_
                          clear hb hbox hg
                          refine hK.out _ _ ⟨(blk_cell BK189.out 0).trans rfl, (blk_cell BK189.out 1).trans rfl⟩ (fun hHeld => ?_)
                          clear hK K
                          refine norm_ (a' := ?_) ?_ ?_
                          rotate_left
                          · show Act.put _ (some 10) _ = _
                            simp only [Act.put, List.setIfInBounds_toArray, List.set_cons_zero, List.set_cons_succ, i64_w, i32_w]
                            rfl
                          exact norm_ (by first | (simp only [putAll, Act.put, List.setIfInBounds_toArray, List.set_cons_zero, List.set_cons_succ]; done) | (simp only [putAll, Act.put, List.setIfInBounds_toArray, List.set_cons_zero, List.set_cons_succ]; rfl)) (hJ1_3_5_6_9 (v191, v194, v197, (.slice Ao30 y199.length co30 : Value), gb205) _ ⟨hHeld, (by (with_reducible repeat (first | apply Kd.R_alloc | apply Kd.R_drewN | apply Kd.R_drew)); exact HO198.out), (by (with_reducible repeat (first | apply Kd.R_alloc | apply Kd.R_drewN | apply Kd.R_drew)); exact HO201.out), (by (with_reducible repeat (first | refine blk_drewN ?_ _ | refine blk_drew ?_ | refine blk_alloc ?_ _)); exact BK189.out), (by (with_reducible repeat (first | refine blk_drewN ?_ _ | refine blk_drew ?_ | refine blk_alloc ?_ _)); exact BK205.out), GW205.out, GE205.out, NB189_205.out, NB205_189.out, (by repeat (first | (with_reducible first | exact HB.out | apply below_alloc | apply pw_below_drewN | apply below_drew1 | refine below_set ?_ GE189.out | refine below_set ?_ GE205.out) | exact HB.out))⟩)
                    · skip
                      rintro ⟨v191, v194, v197, v200, gb205⟩ w30 ⟨hS_, h0_, h1_, h2_, h3_, h4_, h5_, h6_, h7_, h8_⟩
                      have n0_ : Aside0 (Kd.R k36 36 w30 w.heap.size (fun k_ => some k_ ≠ (v200 : Value).ownBlock ∧ k_ ≠ gb189) v197 y196) := ⟨h0_⟩
                      have n1_ : Aside0 (Kd.R k36 36 w30 w.heap.size (fun k_ => some k_ ≠ (v197 : Value).ownBlock ∧ k_ ≠ gb189) v200 y199) := ⟨h1_⟩
                      have n2_ : Aside0 (w30.heap[gb189]? = some (.cells #[.string (⟨#[82, 101, 116, 114, 121, 45, 65, 102, 116, 101, 114]⟩ : ByteArray), .string a2] 36 (0, 0))) := ⟨h2_⟩
                      have n3_ : Aside0 (w30.heap[gb205]? = some (.cells #[.int .i64 0, .int .i64 0, .int .i64 0] 29 (0, 0))) := ⟨h3_⟩
                      have n4_ : Aside0 (w.heap.size ≤ gb205) := ⟨h4_⟩
                      have n5_ : Aside0 (w.heap.size ≤ gb205) := ⟨h5_⟩
                      have n6_ : Aside0 (gb189 ≠ gb205) := ⟨h6_⟩
                      have n7_ : Aside0 (gb205 ≠ gb189) := ⟨h7_⟩
                      have n8_ : Aside0 (Below w.heap.size w w30) := ⟨h8_⟩
                      clear BK189
                      clear HB
                      clear h0_ h1_ h2_ h3_ h4_ h5_ h6_ h7_ h8_
                      have HO198 := n0_
                      have HO201 := n1_
                      have BK189 := n2_
                      have BK205 := n3_
                      have GW205 := n4_
                      have GE205 := n5_
                      have NB189_205 := n6_
                      have NB205_189 := n7_
                      have HB := n8_
                      clear n0_ n1_ n2_ n3_ n4_ n5_ n6_ n7_ n8_
                      have hHeld : w30.cell? ⟨gb189, 0, none⟩ = some (.string (⟨#[82, 101, 116, 114, 121, 45, 65, 102, 116, 101, 114]⟩ : ByteArray)) ∧ w30.cell? ⟨gb189, 1, none⟩ = some (.string a2) := hS_
                      obtain ⟨Ao31, co31, eo31⟩ := Kd.R_slice HO201.out
                      (first | subst eo31 | (injection eo31 with f1_ f2_ f3_; have f4_ := f1_.symm; have f5_ := f3_.symm; clear f1_ f2_ f3_; subst f4_; subst f5_))
                      refine norm_ (a' := ?_) ?_ ?_
                      rotate_left
                      · simp only [putAll, Act.put, List.setIfInBounds_toArray, List.set_cons_zero, List.set_cons_succ]
                        rfl
                      refine one_ (i := 8) (N := some 31) #[true, true, true, true, true, true, true, true, true, true, false] rfl rfl (one_of HT_.out (by kernel_rfl)) (by decide) (fun K hK => ?_)
                      refine goes_ Tryz.func12 (by kernel_rfl) rfl #[.int .i64 a0, .slice Ao31 y199.length co31, .int .i64 a3] (by rfl) rfl rfl (by (try simp only [List.map_toArray, List.map_cons, List.map_nil]); first | done | rfl | (simp only [List.length_drop, List.length_take]; rfl)) ?_
                      with_reducible refine (feed_From.calls kj4 a0 _ _ y199 a3 t202 t203 t204 _ ?side3 ?side1 ?side2 A13.out).mono ?_
                      (case side1 => repeat (first | exact (Kd.R_reads' HO201.out).2.2 | (with_reducible refine Kd.C_alloc ?_ _) | (with_reducible refine Kd.C_drewN ?_ _) | (with_reducible refine Kd.C_drew ?_)))
                      (case side2 => exact (Kd.R_reads' HO201.out).2.1)
                      (case side3 => exact HG.out.below (by repeat (first | (with_reducible first | exact HB.out | apply below_alloc | apply pw_below_drewN | apply below_drew1 | refine below_set ?_ GE189.out | refine below_set ?_ GE205.out) | exact HB.out)))
                      rintro e w32 ⟨rfl, hb⟩
                      refine ⟨_, rfl, ?_⟩
                      have n0_ := Aside0.mk (Kd.R_below (by (with_reducible repeat (first | apply Kd.R_alloc | apply Kd.R_drewN | apply Kd.R_drew)); exact HO198.out) hb)
                      have n1_ := Aside0.mk (Kd.R_below (by (with_reducible repeat (first | apply Kd.R_alloc | apply Kd.R_drewN | apply Kd.R_drew)); exact HO201.out) hb)
                      have n2_ := Aside0.mk (blk_below (g := gb189) (o := .cells #[.string (⟨#[82, 101, 116, 114, 121, 45, 65, 102, 116, 101, 114]⟩ : ByteArray), .string a2] 36 (0, 0)) (by (with_reducible repeat (first | refine blk_drewN ?_ _ | refine blk_drew ?_ | refine blk_alloc ?_ _)); exact BK189.out) hb)
                      have n3_ := Aside0.mk (blk_below (g := gb205) (o := .cells #[.int .i64 0, .int .i64 0, .int .i64 0] 29 (0, 0)) (by (with_reducible repeat (first | refine blk_drewN ?_ _ | refine blk_drew ?_ | refine blk_alloc ?_ _)); exact BK205.out) hb)
                      have n4_ := Aside0.mk (below_step (by repeat (first | (with_reducible first | exact HB.out | apply below_alloc | apply pw_below_drewN | apply below_drew1 | refine below_set ?_ GE189.out | refine below_set ?_ GE205.out) | exact HB.out)) hb)
                      clear HO198
                      clear HO201
                      clear BK189
                      clear BK205
                      clear HB
                      have HO198 := n0_
                      have HO201 := n1_
                      have BK189 := n2_
                      have BK205 := n3_
                      have HB := n4_
                      clear n0_ n1_ n2_ n3_ n4_
                      (try clear hb)
                      (try clear hb2)
                      (try clear hk)
                      (try clear hi)
                      refine hK.out _ _ ⟨(blk_cell BK189.out 0).trans rfl, (blk_cell BK189.out 1).trans rfl⟩ (fun hHeld => ?_)
                      clear hK K
                      refine norm_ (a' := ?_) ?_ ?_
                      rotate_left
                      · show Act.put _ (some 31) _ = _
                        simp only [Act.put, List.setIfInBounds_toArray, List.set_cons_zero, List.set_cons_succ, i64_w, i32_w]
                        rfl
                      exact norm_ (by first | (simp only [putAll, Act.put, List.setIfInBounds_toArray, List.set_cons_zero, List.set_cons_succ]; done) | (simp only [putAll, Act.put, List.setIfInBounds_toArray, List.set_cons_zero, List.set_cons_succ]; rfl)) (hJ1_3_5_6_8_9 (v191, v194, v197, .slice Ao31 y199.length co31, gb205) _ ⟨hHeld, (by (with_reducible repeat (first | apply Kd.R_alloc | apply Kd.R_drewN | apply Kd.R_drew)); exact HO198.out), (by (with_reducible repeat (first | apply Kd.R_alloc | apply Kd.R_drewN | apply Kd.R_drew)); exact HO201.out), (by (with_reducible repeat (first | refine blk_drewN ?_ _ | refine blk_drew ?_ | refine blk_alloc ?_ _)); exact BK189.out), (by (with_reducible repeat (first | refine blk_drewN ?_ _ | refine blk_drew ?_ | refine blk_alloc ?_ _)); exact BK205.out), GW205.out, GE205.out, NB189_205.out, NB205_189.out, (by repeat (first | (with_reducible first | exact HB.out | apply below_alloc | apply pw_below_drewN | apply below_drew1 | refine below_set ?_ GE189.out | refine below_set ?_ GE205.out) | exact HB.out))⟩)
                  · skip
                    rintro ⟨v191, v194, v197, v200⟩ w31 ⟨hS_, h0_, h1_, h2_, h3_⟩
                    have n0_ : Aside0 (Kd.R k36 36 w31 w.heap.size (fun k_ => some k_ ≠ (v200 : Value).ownBlock ∧ k_ ≠ gb189) v197 y196) := ⟨h0_⟩
                    have n1_ : Aside0 (Kd.R k36 36 w31 w.heap.size (fun k_ => some k_ ≠ (v197 : Value).ownBlock ∧ k_ ≠ gb189) v200 y199) := ⟨h1_⟩
                    have n2_ : Aside0 (w31.heap[gb189]? = some (.cells #[.string (⟨#[82, 101, 116, 114, 121, 45, 65, 102, 116, 101, 114]⟩ : ByteArray), .string a2] 36 (0, 0))) := ⟨h2_⟩
                    have n3_ : Aside0 (Below w.heap.size w w31) := ⟨h3_⟩
                    clear BK189
                    clear HB
                    clear h0_ h1_ h2_ h3_
                    have HO198 := n0_
                    have HO201 := n1_
                    have BK189 := n2_
                    have HB := n3_
                    clear n0_ n1_ n2_ n3_
                    have hHeld : w31.cell? ⟨gb189, 0, none⟩ = some (.string (⟨#[82, 101, 116, 114, 121, 45, 65, 102, 116, 101, 114]⟩ : ByteArray)) ∧ w31.cell? ⟨gb189, 1, none⟩ = some (.string a2) := hS_
                    refine norm_ (a' := ?_) ?_ ?_
                    rotate_left
                    · simp only [putAll, Act.put, List.setIfInBounds_toArray, List.set_cons_zero, List.set_cons_succ]
                      rfl
                    refine one_ (i := 9) (N := some 10) #[true, true, true, true, true, true, true, true, true, true, false] rfl rfl (one_of HT_.out (by kernel_rfl)) (by decide) (fun K hK => ?_)
                    refine box_step ?hg (N := 10) ?hd (cs := #[.int .i64 0, .int .i64 0, .int .i64 0]) (t := 29) ?hr ?_; (case hd => rfl); (case hg => rfl); (case hr => first | (go_simp; done) | (go_simp; rfl))
                    intro gb205 hg w32 hbox hb
                    have n0_ := Aside0.mk (Kd.R_below (by (with_reducible repeat (first | apply Kd.R_alloc | apply Kd.R_drewN | apply Kd.R_drew)); exact HO198.out) hb)
                    have n1_ := Aside0.mk (Kd.R_below (by (with_reducible repeat (first | apply Kd.R_alloc | apply Kd.R_drewN | apply Kd.R_drew)); exact HO201.out) hb)
                    have n2_ := Aside0.mk (blk_below (g := gb189) (o := .cells #[.string (⟨#[82, 101, 116, 114, 121, 45, 65, 102, 116, 101, 114]⟩ : ByteArray), .string a2] 36 (0, 0)) (by (with_reducible repeat (first | refine blk_drewN ?_ _ | refine blk_drew ?_ | refine blk_alloc ?_ _)); exact BK189.out) hb)
                    have n3_ := Aside0.mk (below_step (by repeat (first | (with_reducible first | exact HB.out | apply below_alloc | apply pw_below_drewN | apply below_drew1 | refine below_set ?_ GE189.out) | exact HB.out)) hb)
                    have n4_ := Aside0.mk (hbox)
                    have n5_ := Aside0.mk ((by rw [hg]; exact (below_size (by repeat (first | (with_reducible first | exact HB.out | apply below_alloc | apply pw_below_drewN | apply below_drew1 | refine below_set ?_ GE189.out) | exact HB.out))) : w.heap.size ≤ gb205))
                    have n6_ := Aside0.mk ((by rw [hg]; exact (below_size (by repeat (first | (with_reducible first | exact HB.out | apply below_alloc | apply pw_below_drewN | apply below_drew1 | refine below_set ?_ GE189.out) | exact HB.out))) : w.heap.size ≤ gb205))
                    have n7_ := Aside0.mk ((by rw [hg]; exact Nat.ne_of_lt (blk_lt (g := gb189) (o := .cells #[.string (⟨#[82, 101, 116, 114, 121, 45, 65, 102, 116, 101, 114]⟩ : ByteArray), .string a2] 36 (0, 0)) (by (with_reducible repeat (first | refine blk_drewN ?_ _ | refine blk_drew ?_ | refine blk_alloc ?_ _)); exact BK189.out)) : gb189 ≠ gb205))
                    have n8_ := Aside0.mk ((by rw [hg]; exact Nat.ne_of_gt (blk_lt (g := gb189) (o := .cells #[.string (⟨#[82, 101, 116, 114, 121, 45, 65, 102, 116, 101, 114]⟩ : ByteArray), .string a2] 36 (0, 0)) (by (with_reducible repeat (first | refine blk_drewN ?_ _ | refine blk_drew ?_ | refine blk_alloc ?_ _)); exact BK189.out)) : gb205 ≠ gb189))
                    clear HO198
                    clear HO201
                    clear BK189
                    clear HB
                    have HO198 := n0_
                    have HO201 := n1_
                    have BK189 := n2_
                    have HB := n3_
                    have BK205 := n4_
                    have GW205 := n5_
                    have GE205 := n6_
                    have NB189_205 := n7_
                    have NB205_189 := n8_
                    clear n0_ n1_ n2_ n3_ n4_ n5_ n6_ n7_ n8_
                    clear hb hbox hg
                    refine hK.out _ _ ⟨(blk_cell BK189.out 0).trans rfl, (blk_cell BK189.out 1).trans rfl⟩ (fun hHeld => ?_)
                    clear hK K
                    refine norm_ (a' := ?_) ?_ ?_
                    rotate_left
                    · show Act.put _ (some 10) _ = _
                      simp only [Act.put, List.setIfInBounds_toArray, List.set_cons_zero, List.set_cons_succ, i64_w, i32_w]
                      rfl
                    exact norm_ (by first | (simp only [putAll, Act.put, List.setIfInBounds_toArray, List.set_cons_zero, List.set_cons_succ]; done) | (simp only [putAll, Act.put, List.setIfInBounds_toArray, List.set_cons_zero, List.set_cons_succ]; rfl)) (hJ1_3_5_6_8_9 (v191, v194, v197, v200, gb205) _ ⟨hHeld, (by (with_reducible repeat (first | apply Kd.R_alloc | apply Kd.R_drewN | apply Kd.R_drew)); exact HO198.out), (by (with_reducible repeat (first | apply Kd.R_alloc | apply Kd.R_drewN | apply Kd.R_drew)); exact HO201.out), (by (with_reducible repeat (first | refine blk_drewN ?_ _ | refine blk_drew ?_ | refine blk_alloc ?_ _)); exact BK189.out), (by (with_reducible repeat (first | refine blk_drewN ?_ _ | refine blk_drew ?_ | refine blk_alloc ?_ _)); exact BK205.out), GW205.out, GE205.out, NB189_205.out, NB205_189.out, (by repeat (first | (with_reducible first | exact HB.out | apply below_alloc | apply pw_below_drewN | apply below_drew1 | refine below_set ?_ GE189.out | refine below_set ?_ GE205.out) | exact HB.out))⟩)
                rintro ⟨v191, v194, v197, v200, gb205⟩ w32 ⟨hS_, h0_, h1_, h2_, h3_, h4_, h5_, h6_, h7_, h8_⟩
                have n0_ : Aside0 (Kd.R k36 36 w32 w.heap.size (fun k_ => some k_ ≠ (v200 : Value).ownBlock ∧ k_ ≠ gb189) v197 y196) := ⟨h0_⟩
                have n1_ : Aside0 (Kd.R k36 36 w32 w.heap.size (fun k_ => some k_ ≠ (v197 : Value).ownBlock ∧ k_ ≠ gb189) v200 y199) := ⟨h1_⟩
                have n2_ : Aside0 (w32.heap[gb189]? = some (.cells #[.string (⟨#[82, 101, 116, 114, 121, 45, 65, 102, 116, 101, 114]⟩ : ByteArray), .string a2] 36 (0, 0))) := ⟨h2_⟩
                have n3_ : Aside0 (w32.heap[gb205]? = some (.cells #[.int .i64 0, .int .i64 0, .int .i64 0] 29 (0, 0))) := ⟨h3_⟩
                have n4_ : Aside0 (w.heap.size ≤ gb205) := ⟨h4_⟩
                have n5_ : Aside0 (w.heap.size ≤ gb205) := ⟨h5_⟩
                have n6_ : Aside0 (gb189 ≠ gb205) := ⟨h6_⟩
                have n7_ : Aside0 (gb205 ≠ gb189) := ⟨h7_⟩
                have n8_ : Aside0 (Below w.heap.size w w32) := ⟨h8_⟩
                clear BK189
                clear HB
                clear h0_ h1_ h2_ h3_ h4_ h5_ h6_ h7_ h8_
                have HO198 := n0_
                have HO201 := n1_
                have BK189 := n2_
                have BK205 := n3_
                have GW205 := n4_
                have GE205 := n5_
                have NB189_205 := n6_
                have NB205_189 := n7_
                have HB := n8_
                clear n0_ n1_ n2_ n3_ n4_ n5_ n6_ n7_ n8_
                have hHeld : w32.cell? ⟨gb189, 0, none⟩ = some (.string (⟨#[82, 101, 116, 114, 121, 45, 65, 102, 116, 101, 114]⟩ : ByteArray)) ∧ w32.cell? ⟨gb189, 1, none⟩ = some (.string a2) := hS_
                refine norm_ (a' := ?_) ?_ ?_
                rotate_left
                · simp only [putAll, Act.put, List.setIfInBounds_toArray, List.set_cons_zero, List.set_cons_succ]
                  rfl
                refine one_ (i := 10) (N := none) #[true, true, true, true, true, true, true, true, true, true, true] rfl rfl (one_of HT_.out (by kernel_rfl)) (by decide) (fun K hK => ?_)
                have hs33 : w32.cell? ⟨gb205, 0, none⟩ = some (.int .i64 0) := (blk_cell BK205.out 0).trans rfl
                have hfs33 := blk_frozen BK205.out 0
                have hns33_0 := NB189_205.out
                have hms33_0 := NB205_189.out
                have hs34 : w32.cell? ⟨gb205, 1, none⟩ = some (.int .i64 0) := (blk_cell BK205.out 1).trans rfl
                have hfs34 := blk_frozen BK205.out 1
                have hns34_0 := NB189_205.out
                have hms34_0 := NB205_189.out
                have hs35 : w32.cell? ⟨gb205, 2, none⟩ = some (.int .i64 0) := (blk_cell BK205.out 2).trans rfl
                have hfs35 := blk_frozen BK205.out 2
                have hns35_0 := NB189_205.out
                have hms35_0 := NB205_189.out
                refine skip_ (w1 := ?_) (by rfl) rfl ?_ ?_
                rotate_left
                · go_simp
                  rfl
                refine hK.out _ _ ⟨((Go.Proofs.YtelgjeeleofgoaaGreatDoorW.PrintWords.cell_far (p := ⟨gb205, _, none⟩) NB189_205.out _).trans (((Go.Proofs.YtelgjeeleofgoaaGreatDoorW.PrintWords.cell_far (p := ⟨gb205, _, none⟩) NB189_205.out _).trans (((Go.Proofs.YtelgjeeleofgoaaGreatDoorW.PrintWords.cell_far (p := ⟨gb205, _, none⟩) NB189_205.out _).trans (hHeld.1)))))), ((Go.Proofs.YtelgjeeleofgoaaGreatDoorW.PrintWords.cell_far (p := ⟨gb205, _, none⟩) NB189_205.out _).trans (((Go.Proofs.YtelgjeeleofgoaaGreatDoorW.PrintWords.cell_far (p := ⟨gb205, _, none⟩) NB189_205.out _).trans (((Go.Proofs.YtelgjeeleofgoaaGreatDoorW.PrintWords.cell_far (p := ⟨gb205, _, none⟩) NB189_205.out _).trans (hHeld.2))))))⟩ (fun hHeld => ?_)
                clear hK K
                refine done_ (done_of HT_.out (by kernel_rfl)) ?_
                have hnb36 := NB189_205.out
                have hnc36 := NB205_189.out
                have hcz37_0 : w32.cell? ⟨gb189, 0, none⟩ = some (.string (⟨#[82, 101, 116, 114, 121, 45, 65, 102, 116, 101, 114]⟩ : ByteArray)) := (blk_cell BK189.out 0).trans rfl
                have hcz37_1 : w32.cell? ⟨gb189, 1, none⟩ = some (.string a2) := (blk_cell BK189.out 1).trans rfl
                have hfz37_0 := blk_frozen BK189.out 0
                have hfz37_1 := blk_frozen BK189.out 1
                try go_wp2_with (first | ((with_reducible refine gate_dst (N := 35) rfl ?_); (try (refine gate_guard (by rfl) ?_; dsimp only)); refine Kd.R_lit k36 _ 36 ?hg (N := 35) ?hd (xs := ([(⟨(⟨#[82, 101, 116, 114, 121, 45, 65, 102, 116, 101, 114]⟩ : ByteArray), a2⟩ : S36), (⟨(⟨#[68, 97, 116, 101]⟩ : ByteArray), (⟨#[48]⟩ : ByteArray)⟩ : S36)] : List (S36))) (inner := [.string (⟨#[82, 101, 116, 114, 121, 45, 65, 102, 116, 101, 114]⟩ : ByteArray), .string a2, .string (⟨#[68, 97, 116, 101]⟩ : ByteArray), .string (⟨#[48]⟩ : ByteArray)]) (ok := fun _ => True) (okp := fun _ => True) ?hr ?hp (fun _ hk => hk) trivial (Below.refl _ _) (Nat.le_refl _) (by simp) ?_; (case hd => rfl); (case hg => rfl); (case hr => first | (go_simp; done) | (go_simp; rfl)); (case hp => exact (Reps.c2 (show Kd.M k36 _ _ _ (⟨(⟨#[82, 101, 116, 114, 121, 45, 65, 102, 116, 101, 114]⟩ : ByteArray), a2⟩ : S36) [.string (⟨#[82, 101, 116, 114, 121, 45, 65, 102, 116, 101, 114]⟩ : ByteArray), .string a2] from (k36_mkM _ _ _ (⟨(⟨#[82, 101, 116, 114, 121, 45, 65, 102, 116, 101, 114]⟩ : ByteArray), a2⟩ : S36) )) (Reps.c2 (show Kd.M k36 _ _ _ (⟨(⟨#[68, 97, 116, 101]⟩ : ByteArray), (⟨#[48]⟩ : ByteArray)⟩ : S36) [.string (⟨#[68, 97, 116, 101]⟩ : ByteArray), .string (⟨#[48]⟩ : ByteArray)] from (k36_mkM _ _ _ (⟨(⟨#[68, 97, 116, 101]⟩ : ByteArray), (⟨#[48]⟩ : ByteArray)⟩ : S36) )) (Reps.none _ _)))); intro v207 w38 ho39 hb hg_ hnew_; clear hg_ hnew_; (first | rw [← Ny206.out] at ho39 | (simp only [Int.reduceToNat] at ho39; rw [← Ny206.out] at ho39)); have n0_ := Aside0.mk (Kd.R_elder' (by (with_reducible repeat (first | apply Kd.R_alloc | apply Kd.R_drewN | apply Kd.R_drew)); exact (Kd.R_mono (Kd.R_far (p := ⟨gb205, 2, none⟩) (Kd.R_far (p := ⟨gb205, 1, none⟩) (Kd.R_far (p := ⟨gb205, 0, none⟩) (Kd.R_types HO198.out BK205.out (by decide)) (fun _ hk => hk.2) (.int .i64 t202)) (fun _ hk => hk.2) (.int .i64 t203)) (fun _ hk => hk.2) (.int .i64 t204)) (fun _ h_ => h_.1))) (Kd.R_base ho39) hb); have n1_ := Aside0.mk (Kd.R_elder' (by (with_reducible repeat (first | apply Kd.R_alloc | apply Kd.R_drewN | apply Kd.R_drew)); exact (Kd.R_mono (Kd.R_far (p := ⟨gb205, 2, none⟩) (Kd.R_far (p := ⟨gb205, 1, none⟩) (Kd.R_far (p := ⟨gb205, 0, none⟩) (Kd.R_types HO201.out BK205.out (by decide)) (fun _ hk => hk.2) (.int .i64 t202)) (fun _ hk => hk.2) (.int .i64 t203)) (fun _ hk => hk.2) (.int .i64 t204)) (fun _ h_ => h_.1))) (Kd.R_base ho39) hb); have n2_ := Aside0.mk (Kd.R_lower (Kd.R_newB (Kd.R_new' (Kd.R_new' ho39 (Kd.R_lt (by (with_reducible repeat (first | apply Kd.R_alloc | apply Kd.R_drewN | apply Kd.R_drew)); exact (Kd.R_mono (Kd.R_far (p := ⟨gb205, 2, none⟩) (Kd.R_far (p := ⟨gb205, 1, none⟩) (Kd.R_far (p := ⟨gb205, 0, none⟩) (Kd.R_types HO198.out BK205.out (by decide)) (fun _ hk => hk.2) (.int .i64 t202)) (fun _ hk => hk.2) (.int .i64 t203)) (fun _ hk => hk.2) (.int .i64 t204)) (fun _ h_ => h_.1))))) (Kd.R_lt (by (with_reducible repeat (first | apply Kd.R_alloc | apply Kd.R_drewN | apply Kd.R_drew)); exact (Kd.R_mono (Kd.R_far (p := ⟨gb205, 2, none⟩) (Kd.R_far (p := ⟨gb205, 1, none⟩) (Kd.R_far (p := ⟨gb205, 0, none⟩) (Kd.R_types HO201.out BK205.out (by decide)) (fun _ hk => hk.2) (.int .i64 t202)) (fun _ hk => hk.2) (.int .i64 t203)) (fun _ hk => hk.2) (.int .i64 t204)) (fun _ h_ => h_.1))))) (g := gb189) (o := .cells #[.string (⟨#[82, 101, 116, 114, 121, 45, 65, 102, 116, 101, 114]⟩ : ByteArray), .string a2] 36 (0, 0)) (by (with_reducible repeat (first | refine blk_drewN ?_ _ | refine blk_drew ?_ | refine blk_alloc ?_ _)); refine blk_far ?_ NB189_205.out _; (with_reducible repeat (first | refine blk_drewN ?_ _ | refine blk_drew ?_ | refine blk_alloc ?_ _)); refine blk_far ?_ NB189_205.out _; (with_reducible repeat (first | refine blk_drewN ?_ _ | refine blk_drew ?_ | refine blk_alloc ?_ _)); refine blk_far ?_ NB189_205.out _; (with_reducible repeat (first | refine blk_drewN ?_ _ | refine blk_drew ?_ | refine blk_alloc ?_ _)); exact BK189.out)) (below_size (by repeat (first | (with_reducible first | exact HB.out | apply below_alloc | apply pw_below_drewN | apply below_drew1 | refine below_set ?_ GE189.out | refine below_set ?_ GE205.out) | exact HB.out)))); have n3_ := Aside0.mk (blk_below (g := gb189) (o := .cells #[.string (⟨#[82, 101, 116, 114, 121, 45, 65, 102, 116, 101, 114]⟩ : ByteArray), .string a2] 36 (0, 0)) (by (with_reducible repeat (first | refine blk_drewN ?_ _ | refine blk_drew ?_ | refine blk_alloc ?_ _)); refine blk_far ?_ NB189_205.out _; (with_reducible repeat (first | refine blk_drewN ?_ _ | refine blk_drew ?_ | refine blk_alloc ?_ _)); refine blk_far ?_ NB189_205.out _; (with_reducible repeat (first | refine blk_drewN ?_ _ | refine blk_drew ?_ | refine blk_alloc ?_ _)); refine blk_far ?_ NB189_205.out _; (with_reducible repeat (first | refine blk_drewN ?_ _ | refine blk_drew ?_ | refine blk_alloc ?_ _)); exact BK189.out) hb); have n4_ := Aside0.mk (blk_below (g := gb205) (o := .cells #[.int .i64 t202, .int .i64 t203, .int .i64 t204] 29 (0, 0)) (by (with_reducible repeat (first | refine blk_drewN ?_ _ | refine blk_drew ?_ | refine blk_alloc ?_ _)); refine blk_put (cs := #[.int .i64 t202, .int .i64 t203, .int .i64 0]) ?_ 2 _ rfl; (with_reducible repeat (first | refine blk_drewN ?_ _ | refine blk_drew ?_ | refine blk_alloc ?_ _)); refine blk_put (cs := #[.int .i64 t202, .int .i64 0, .int .i64 0]) ?_ 1 _ rfl; (with_reducible repeat (first | refine blk_drewN ?_ _ | refine blk_drew ?_ | refine blk_alloc ?_ _)); refine blk_put (cs := #[.int .i64 0, .int .i64 0, .int .i64 0]) ?_ 0 _ rfl; (with_reducible repeat (first | refine blk_drewN ?_ _ | refine blk_drew ?_ | refine blk_alloc ?_ _)); exact BK205.out) hb); have n5_ := Aside0.mk (below_step (by repeat (first | (with_reducible first | exact HB.out | apply below_alloc | apply pw_below_drewN | apply below_drew1 | refine below_set ?_ GE189.out | refine below_set ?_ GE205.out) | exact HB.out)) hb); clear HO198; clear HO201; clear BK189; clear BK205; clear HB; have HO198 := n0_; have HO201 := n1_; have HO208 := n2_; have BK189 := n3_; have BK205 := n4_; have HB := n5_; clear n0_ n1_ n2_ n3_ n4_ n5_; clear hb ho39; obtain ⟨Ao40, co40, eo40⟩ := Kd.R_slice HO208.out; subst eo40) | ((with_reducible refine gate_callee (f := 12) rfl ?_); refine goesL_ (some 37) rfl rfl Tryz.func12 (by kernel_rfl) rfl #[.int .i64 a0, .slice Ao40 y206.length co40, .int .i64 a3] rfl (by (try simp only [List.map_toArray, List.map_cons, List.map_nil]); first | done | rfl | (simp only [List.length_drop, List.length_take]; rfl)) ?_; (with_reducible refine (feed_From.calls kj4 a0 _ _ y206 a3 t209 t210 t211 _ ?side3 ?side1 ?side2 A14.out).mono ?_); (case side1 => repeat (first | exact (Kd.R_reads' HO208.out).2.2 | (with_reducible refine Kd.C_alloc ?_ _) | (with_reducible refine Kd.C_drewN ?_ _) | (with_reducible refine Kd.C_drew ?_))); (case side2 => exact (Kd.R_reads' HO208.out).2.1); (case side3 => exact HG.out.below (by repeat (first | (with_reducible first | exact HB.out | apply below_alloc | apply pw_below_drewN | apply below_drew1 | refine below_set ?_ GE189.out | refine below_set ?_ GE205.out) | exact HB.out))); rintro e w41 ⟨rfl, hb⟩; refine ⟨_, rfl, ?_⟩; have n0_ := Aside0.mk (Kd.R_below (by (with_reducible repeat (first | apply Kd.R_alloc | apply Kd.R_drewN | apply Kd.R_drew)); exact HO198.out) hb); have n1_ := Aside0.mk (Kd.R_below (by (with_reducible repeat (first | apply Kd.R_alloc | apply Kd.R_drewN | apply Kd.R_drew)); exact HO201.out) hb); have n2_ := Aside0.mk (Kd.R_below (by (with_reducible repeat (first | apply Kd.R_alloc | apply Kd.R_drewN | apply Kd.R_drew)); exact HO208.out) hb); have n3_ := Aside0.mk (blk_below (g := gb189) (o := .cells #[.string (⟨#[82, 101, 116, 114, 121, 45, 65, 102, 116, 101, 114]⟩ : ByteArray), .string a2] 36 (0, 0)) (by (with_reducible repeat (first | refine blk_drewN ?_ _ | refine blk_drew ?_ | refine blk_alloc ?_ _)); exact BK189.out) hb); have n4_ := Aside0.mk (blk_below (g := gb205) (o := .cells #[.int .i64 t202, .int .i64 t203, .int .i64 t204] 29 (0, 0)) (by (with_reducible repeat (first | refine blk_drewN ?_ _ | refine blk_drew ?_ | refine blk_alloc ?_ _)); exact BK205.out) hb); have n5_ := Aside0.mk (below_step (by repeat (first | (with_reducible first | exact HB.out | apply below_alloc | apply pw_below_drewN | apply below_drew1 | refine below_set ?_ GE189.out | refine below_set ?_ GE205.out) | exact HB.out)) hb); clear HO198; clear HO201; clear HO208; clear BK189; clear BK205; clear HB; have HO198 := n0_; have HO201 := n1_; have HO208 := n2_; have BK189 := n3_; have BK205 := n4_; have HB := n5_; clear n0_ n1_ n2_ n3_ n4_ n5_; (try clear hb); (try clear hb2); (try clear hk); (try clear hi)) | ((with_reducible refine gate_dst (N := 11) rfl ?_); (try (refine gate_guard (by rfl) ?_; dsimp only)); refine box_event ?hg (N := 11) ?hd (cs := #[.int .i64 0, .int .i64 0, .int .i64 0]) (t := 29) ?hr ?_; (case hd => rfl); (case hg => rfl); (case hr => first | (go_simp; done) | (go_simp; rfl)); intro gb212 hg w42 hbox hb; have n0_ := Aside0.mk (Kd.R_below (by (with_reducible repeat (first | apply Kd.R_alloc | apply Kd.R_drewN | apply Kd.R_drew)); exact HO198.out) hb); have n1_ := Aside0.mk (Kd.R_below (by (with_reducible repeat (first | apply Kd.R_alloc | apply Kd.R_drewN | apply Kd.R_drew)); exact HO201.out) hb); have n2_ := Aside0.mk (Kd.R_below (by (with_reducible repeat (first | apply Kd.R_alloc | apply Kd.R_drewN | apply Kd.R_drew)); exact HO208.out) hb); have n3_ := Aside0.mk (blk_below (g := gb189) (o := .cells #[.string (⟨#[82, 101, 116, 114, 121, 45, 65, 102, 116, 101, 114]⟩ : ByteArray), .string a2] 36 (0, 0)) (by (with_reducible repeat (first | refine blk_drewN ?_ _ | refine blk_drew ?_ | refine blk_alloc ?_ _)); exact BK189.out) hb); have n4_ := Aside0.mk (blk_below (g := gb205) (o := .cells #[.int .i64 t202, .int .i64 t203, .int .i64 t204] 29 (0, 0)) (by (with_reducible repeat (first | refine blk_drewN ?_ _ | refine blk_drew ?_ | refine blk_alloc ?_ _)); exact BK205.out) hb); have n5_ := Aside0.mk (below_step (by repeat (first | (with_reducible first | exact HB.out | apply below_alloc | apply pw_below_drewN | apply below_drew1 | refine below_set ?_ GE189.out | refine below_set ?_ GE205.out) | exact HB.out)) hb); have n6_ := Aside0.mk (hbox); have n7_ := Aside0.mk ((by rw [hg]; exact (below_size (by repeat (first | (with_reducible first | exact HB.out | apply below_alloc | apply pw_below_drewN | apply below_drew1 | refine below_set ?_ GE189.out | refine below_set ?_ GE205.out) | exact HB.out))) : w.heap.size ≤ gb212)); have n8_ := Aside0.mk ((by rw [hg]; exact (below_size (by repeat (first | (with_reducible first | exact HB.out | apply below_alloc | apply pw_below_drewN | apply below_drew1 | refine below_set ?_ GE189.out | refine below_set ?_ GE205.out) | exact HB.out))) : w.heap.size ≤ gb212)); have n9_ := Aside0.mk ((by rw [hg]; exact Nat.ne_of_lt (blk_lt (g := gb189) (o := .cells #[.string (⟨#[82, 101, 116, 114, 121, 45, 65, 102, 116, 101, 114]⟩ : ByteArray), .string a2] 36 (0, 0)) (by (with_reducible repeat (first | refine blk_drewN ?_ _ | refine blk_drew ?_ | refine blk_alloc ?_ _)); exact BK189.out)) : gb189 ≠ gb212)); have n10_ := Aside0.mk ((by rw [hg]; exact Nat.ne_of_gt (blk_lt (g := gb189) (o := .cells #[.string (⟨#[82, 101, 116, 114, 121, 45, 65, 102, 116, 101, 114]⟩ : ByteArray), .string a2] 36 (0, 0)) (by (with_reducible repeat (first | refine blk_drewN ?_ _ | refine blk_drew ?_ | refine blk_alloc ?_ _)); exact BK189.out)) : gb212 ≠ gb189)); have n11_ := Aside0.mk ((by rw [hg]; exact Nat.ne_of_lt (blk_lt (g := gb205) (o := .cells #[.int .i64 t202, .int .i64 t203, .int .i64 t204] 29 (0, 0)) (by (with_reducible repeat (first | refine blk_drewN ?_ _ | refine blk_drew ?_ | refine blk_alloc ?_ _)); exact BK205.out)) : gb205 ≠ gb212)); have n12_ := Aside0.mk ((by rw [hg]; exact Nat.ne_of_gt (blk_lt (g := gb205) (o := .cells #[.int .i64 t202, .int .i64 t203, .int .i64 t204] 29 (0, 0)) (by (with_reducible repeat (first | refine blk_drewN ?_ _ | refine blk_drew ?_ | refine blk_alloc ?_ _)); exact BK205.out)) : gb212 ≠ gb205)); clear HO198; clear HO201; clear HO208; clear BK189; clear BK205; clear HB; have HO198 := n0_; have HO201 := n1_; have HO208 := n2_; have BK189 := n3_; have BK205 := n4_; have HB := n5_; have BK212 := n6_; have GW212 := n7_; have GE212 := n8_; have NB189_212 := n9_; have NB212_189 := n10_; have NB205_212 := n11_; have NB212_205 := n12_; clear n0_ n1_ n2_ n3_ n4_ n5_ n6_ n7_ n8_ n9_ n10_ n11_ n12_; clear hb hbox hg; have hnb43 := NB212_189.out; have hnc43 := NB189_212.out; have hnb44 := NB212_205.out; have hnc44 := NB205_212.out; have hcz45_0 : w42.cell? ⟨gb212, 0, none⟩ = some (.int .i64 0) := (blk_cell BK212.out 0).trans rfl; have hcz45_1 : w42.cell? ⟨gb212, 1, none⟩ = some (.int .i64 0) := (blk_cell BK212.out 1).trans rfl; have hcz45_2 : w42.cell? ⟨gb212, 2, none⟩ = some (.int .i64 0) := (blk_cell BK212.out 2).trans rfl; have hfz45_0 := blk_frozen BK212.out 0; have hfz45_1 := blk_frozen BK212.out 1; have hfz45_2 := blk_frozen BK212.out 2) | ((with_reducible refine gate_callee (f := 9) rfl ?_); refine goesL_ (some 38) rfl rfl Tryz.func9 (by kernel_rfl) rfl #[] rfl (by (try simp only [List.map_toArray, List.map_cons, List.map_nil]); first | done | rfl | (simp only [List.length_drop, List.length_take]; rfl)) ?_; (with_reducible refine (decorumlaw08_awake.calls kj4  true _ ?side1 A15.out).mono ?_); (case side1 => exact HG.out.below (by repeat (first | (with_reducible first | exact HB.out | apply below_alloc | apply pw_below_drewN | apply below_drew1 | refine below_set ?_ GE189.out | refine below_set ?_ GE205.out | refine below_set ?_ GE212.out) | exact HB.out))); rintro e w46 ⟨rfl, hb⟩; refine ⟨_, rfl, ?_⟩; have n0_ := Aside0.mk (Kd.R_below (by (with_reducible repeat (first | apply Kd.R_alloc | apply Kd.R_drewN | apply Kd.R_drew)); exact (Kd.R_mono (Kd.R_far (p := ⟨gb212, 2, none⟩) (Kd.R_far (p := ⟨gb212, 1, none⟩) (Kd.R_far (p := ⟨gb212, 0, none⟩) (Kd.R_types HO198.out BK212.out (by decide)) (fun _ hk => hk.2) (.int .i64 t209)) (fun _ hk => hk.2) (.int .i64 t210)) (fun _ hk => hk.2) (.int .i64 t211)) (fun _ h_ => h_.1))) hb); have n1_ := Aside0.mk (Kd.R_below (by (with_reducible repeat (first | apply Kd.R_alloc | apply Kd.R_drewN | apply Kd.R_drew)); exact (Kd.R_mono (Kd.R_far (p := ⟨gb212, 2, none⟩) (Kd.R_far (p := ⟨gb212, 1, none⟩) (Kd.R_far (p := ⟨gb212, 0, none⟩) (Kd.R_types HO201.out BK212.out (by decide)) (fun _ hk => hk.2) (.int .i64 t209)) (fun _ hk => hk.2) (.int .i64 t210)) (fun _ hk => hk.2) (.int .i64 t211)) (fun _ h_ => h_.1))) hb); have n2_ := Aside0.mk (Kd.R_below (by (with_reducible repeat (first | apply Kd.R_alloc | apply Kd.R_drewN | apply Kd.R_drew)); exact (Kd.R_mono (Kd.R_far (p := ⟨gb212, 2, none⟩) (Kd.R_far (p := ⟨gb212, 1, none⟩) (Kd.R_far (p := ⟨gb212, 0, none⟩) (Kd.R_types HO208.out BK212.out (by decide)) (fun _ hk => hk.2) (.int .i64 t209)) (fun _ hk => hk.2) (.int .i64 t210)) (fun _ hk => hk.2) (.int .i64 t211)) (fun _ h_ => h_.1))) hb); have n3_ := Aside0.mk (blk_below (g := gb189) (o := .cells #[.string (⟨#[82, 101, 116, 114, 121, 45, 65, 102, 116, 101, 114]⟩ : ByteArray), .string a2] 36 (0, 0)) (by (with_reducible repeat (first | refine blk_drewN ?_ _ | refine blk_drew ?_ | refine blk_alloc ?_ _)); refine blk_far ?_ NB189_212.out _; (with_reducible repeat (first | refine blk_drewN ?_ _ | refine blk_drew ?_ | refine blk_alloc ?_ _)); refine blk_far ?_ NB189_212.out _; (with_reducible repeat (first | refine blk_drewN ?_ _ | refine blk_drew ?_ | refine blk_alloc ?_ _)); refine blk_far ?_ NB189_212.out _; (with_reducible repeat (first | refine blk_drewN ?_ _ | refine blk_drew ?_ | refine blk_alloc ?_ _)); exact BK189.out) hb); have n4_ := Aside0.mk (blk_below (g := gb205) (o := .cells #[.int .i64 t202, .int .i64 t203, .int .i64 t204] 29 (0, 0)) (by (with_reducible repeat (first | refine blk_drewN ?_ _ | refine blk_drew ?_ | refine blk_alloc ?_ _)); refine blk_far ?_ NB205_212.out _; (with_reducible repeat (first | refine blk_drewN ?_ _ | refine blk_drew ?_ | refine blk_alloc ?_ _)); refine blk_far ?_ NB205_212.out _; (with_reducible repeat (first | refine blk_drewN ?_ _ | refine blk_drew ?_ | refine blk_alloc ?_ _)); refine blk_far ?_ NB205_212.out _; (with_reducible repeat (first | refine blk_drewN ?_ _ | refine blk_drew ?_ | refine blk_alloc ?_ _)); exact BK205.out) hb); have n5_ := Aside0.mk (blk_below (g := gb212) (o := .cells #[.int .i64 t209, .int .i64 t210, .int .i64 t211] 29 (0, 0)) (by (with_reducible repeat (first | refine blk_drewN ?_ _ | refine blk_drew ?_ | refine blk_alloc ?_ _)); refine blk_put (cs := #[.int .i64 t209, .int .i64 t210, .int .i64 0]) ?_ 2 _ rfl; (with_reducible repeat (first | refine blk_drewN ?_ _ | refine blk_drew ?_ | refine blk_alloc ?_ _)); refine blk_put (cs := #[.int .i64 t209, .int .i64 0, .int .i64 0]) ?_ 1 _ rfl; (with_reducible repeat (first | refine blk_drewN ?_ _ | refine blk_drew ?_ | refine blk_alloc ?_ _)); refine blk_put (cs := #[.int .i64 0, .int .i64 0, .int .i64 0]) ?_ 0 _ rfl; (with_reducible repeat (first | refine blk_drewN ?_ _ | refine blk_drew ?_ | refine blk_alloc ?_ _)); exact BK212.out) hb); have n6_ := Aside0.mk (below_step (by repeat (first | (with_reducible first | exact HB.out | apply below_alloc | apply pw_below_drewN | apply below_drew1 | refine below_set ?_ GE189.out | refine below_set ?_ GE205.out | refine below_set ?_ GE212.out) | exact HB.out)) hb); clear HO198; clear HO201; clear HO208; clear BK189; clear BK205; clear BK212; clear HB; have HO198 := n0_; have HO201 := n1_; have HO208 := n2_; have BK189 := n3_; have BK205 := n4_; have BK212 := n5_; have HB := n6_; clear n0_ n1_ n2_ n3_ n4_ n5_ n6_; (try clear hb); (try clear hb2); (try clear hk); (try clear hi); have hcz47_0 : w46.cell? ⟨gb205, 0, none⟩ = some (.int .i64 t202) := (blk_cell BK205.out 0).trans rfl; have hcz47_1 : w46.cell? ⟨gb205, 1, none⟩ = some (.int .i64 t203) := (blk_cell BK205.out 1).trans rfl; have hcz47_2 : w46.cell? ⟨gb205, 2, none⟩ = some (.int .i64 t204) := (blk_cell BK205.out 2).trans rfl; have hfz47_0 := blk_frozen BK205.out 0; have hfz47_1 := blk_frozen BK205.out 1; have hfz47_2 := blk_frozen BK205.out 2; have hcz48_0 : w46.cell? ⟨gb212, 0, none⟩ = some (.int .i64 t209) := (blk_cell BK212.out 0).trans rfl; have hcz48_1 : w46.cell? ⟨gb212, 1, none⟩ = some (.int .i64 t210) := (blk_cell BK212.out 1).trans rfl; have hcz48_2 : w46.cell? ⟨gb212, 2, none⟩ = some (.int .i64 t211) := (blk_cell BK212.out 2).trans rfl; have hfz48_0 := blk_frozen BK212.out 0; have hfz48_1 := blk_frozen BK212.out 1; have hfz48_2 := blk_frozen BK212.out 2))
                go_ret
                exact ⟨by first | rfl | (simp [errW_none, errW_some] <;> rfl) | (simp [*, errW_none, errW_some] <;> rfl), by repeat (first | (with_reducible first | exact HB.out | apply below_alloc | apply pw_below_drewN | apply below_drew1 | refine below_set ?_ GE189.out | refine below_set ?_ GE205.out | refine below_set ?_ GE212.out) | exact HB.out)⟩
              · rw [if_neg c17] at H
                exact absurd ((Option.some.inj H).trans HT.out) (by decide)
            · replace c16 := Bool.eq_false_iff.mpr c16
              subst c16
              rw [if_neg (show ¬ (false = true) by decide)] at H
              exact absurd ((Option.some.inj H).trans HT.out) (by decide)
          · rw [if_neg c12] at H
            exact absurd H (by simp)
        · rw [if_neg c11] at H
          exact absurd H (by simp)

end
end Go.Proofs.YtelgjeeleofgoaaGreatDoor.PF
