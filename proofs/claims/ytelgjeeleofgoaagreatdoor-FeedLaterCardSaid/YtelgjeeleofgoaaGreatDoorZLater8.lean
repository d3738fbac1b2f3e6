/- FeedLater holds: for every number of seconds, every time and every further time (three uint32, all of them), the law answers true. -/
import Derived.Test.YtelgjeeleofgoaaGreatDoorZLater7
import Derived.Test.YtelgjeeleofgoaaGreatDoorZLater2
import Derived.Test.YtelgjeeleofgoaaGreatDoorZLater6
import Derived.Test.YtelgjeeleofgoaaGreatDoorTie
/- The fixed fact of layer 8. -/
namespace Go.Proofs.YtelgjeeleofgoaaGreatDoor
open Go.RowKit Go.Proofs.YtelgjeeleofgoaaGreatDoorW.PrintWords PF
set_option maxRecDepth 100000
def aw1 : ByteArray := ⟨#[83, 117, 110, 44, 32, 48, 54, 32, 78, 111, 118, 32, 49, 57, 57, 52, 32, 48, 56, 58, 52, 57, 58, 51, 55, 32, 71, 77, 84]⟩
theorem aw_retry : feed_Retry.f (⟨#[32, 49, 50, 48, 32]⟩ : ByteArray) 5000 = some (125000, true) := by kernel_rfl
theorem aw_first : (firstM aw1).bind gotM = some 784111777 := by kernel_rfl
theorem aw_parse (now : Int) : parseM aw1 now = some 784111777 := by
  have h := aw_first
  unfold parseM
  cases hf : firstM aw1 with
  | none => rw [hf] at h; cases h
  | some p => rw [hf] at h; exact h
theorem aw_reset : feed_Reset.f 40 (([(⟨(⟨#[82, 97, 116, 101, 76, 105, 109, 105, 116]⟩ : ByteArray), (⟨#[114, 101, 109, 97, 105, 110, 105, 110, 103, 61, 48, 44, 32, 114, 101, 115, 101, 116, 61, 55]⟩ : ByteArray)⟩ : S36)] : List (S36))) 1000 = some (8000, true) := by kernel_rfl
theorem aw_value : feed_value.f 40 [(⟨(⟨#[114, 101, 116, 114, 121, 45, 97, 102, 116, 101, 114]⟩ : ByteArray), aw1⟩ : S36)] (⟨#[82, 101, 116, 114, 121, 45, 65, 102, 116, 101, 114]⟩ : ByteArray) = some (aw1, true) := by kernel_rfl
theorem aw_reset0 : feed_Reset.f 40 [(⟨(⟨#[114, 101, 116, 114, 121, 45, 97, 102, 116, 101, 114]⟩ : ByteArray), aw1⟩ : S36)] 0 = some (0, false) := by kernel_rfl
theorem aw_trim : strings_Trim.f aw1 (⟨#[32, 9]⟩ : ByteArray) = some aw1 := by kernel_rfl
theorem aw_digits : feed_digits.f aw1 = some (0, false) := by kernel_rfl
theorem aw_date (now : Int) : date_Parse.f aw1 now = some (784111777, true) := by
  unfold date_Parse.f
  rw [aw_parse, if_pos (by decide)]
  rfl
theorem aw_retry1 : feed_Retry.f aw1 0 = some (784111777000, true) := by
  unfold feed_Retry.f
  rw [aw_trim]
  simp only [feed_clock.f, Option.bind_some, aw_digits, aw_date]
  kernel_rfl
theorem aw_from : feed_From.f 40 503 [(⟨(⟨#[114, 101, 116, 114, 121, 45, 97, 102, 116, 101, 114]⟩ : ByteArray), aw1⟩ : S36)] 0 = some (3, 784111777000, 0) := by
  unfold feed_From.f
  rw [aw_value, aw_reset0]
  simp only [Option.bind_some, aw_retry1]
  kernel_rfl
theorem awake_40 : decorumlaw08_awake.f 40 = some true := by
  unfold decorumlaw08_awake.f
  rw [aw_retry, aw_reset]
  have h := aw_from
  unfold aw1 at h
  rw [h]
  simp only [Option.bind_some, if_true]
  rfl
end Go.Proofs.YtelgjeeleofgoaaGreatDoor

/- What layer 8's functions answer, in plain words: no program in sight. All are total; the bounds of what is told. -/
namespace Go.Proofs.YtelgjeeleofgoaaGreatDoor
open Go.RowKit Go.Proofs.YtelgjeeleofgoaaGreatDoorW.PrintWords PF
set_option linter.unusedVariables false

theorem w64 (x : Int) (h0 : -9223372036854775808 ≤ x) (h1 : x ≤ 9223372036854775807) : wrap64 x = x := by
  unfold wrap64
  omega
abbrev Hd := S36
/-- Headers whose texts are short. -/
def Short (B : Nat) (l : List Hd) : Prop := ∀ h ∈ l, h.f0.size ≤ B ∧ h.f1.size ≤ B
theorem rd_mem {l : List Hd} {i : Int} (h0 : 0 ≤ i) (h1 : i < l.length) : rd_T36 l i ∈ l := by
  unfold rd_T36
  have hi : i.toNat < l.length := by omega
  rw [List.getD_eq_getElem?_getD, List.getElem?_eq_getElem hi]
  exact List.getElem_mem hi
theorem mem_rd {l : List Hd} {x : Hd} (h : x ∈ l) : ∃ i : Nat, i < l.length ∧ rd_T36 l i = x := by
  obtain ⟨i, hi, rfl⟩ := List.getElem_of_mem h
  refine ⟨i, hi, ?_⟩
  unfold rd_T36
  simp [hi]
/-- small: it answers; and what is small is short. -/
theorem small_l0 (l : List Hd) (hs : Short 1048576 l) : ∀ (k i : Nat) (n : Int), 10 * (i : Int) ≤ n → n ≤ 3000000 → 1 ≤ k → 301 ≤ k + i → (∀ j : Nat, j < i → j < l.length → (rd_T36 l j).f0.size ≤ n ∧ (rd_T36 l j).f1.size ≤ n) →
    ∃ b, decorumlaw08_small.l0 k l n i = some b ∧ (b = true → l.length ≤ 300 ∧ Short 3000 l)
  | 0, i, n, _, _, h1, _, _ => by omega
  | k + 1, i, n, h10, hn, h1, hk, hj => by
    simp only [decorumlaw08_small.l0]
    by_cases hi : (i : Int) < l.length
    · rw [if_pos hi]
      by_cases h3 : n < 3000
      · rw [if_pos h3, if_pos (by omega)]
        have hm := hs _ (rd_mem (i := (i : Int)) (by omega) hi)
        have e1 : wrap64 ((((rd_T36 l i).f0).size : Int) + (((rd_T36 l i).f1).size : Int)) = ((rd_T36 l i).f0.size : Int) + ((rd_T36 l i).f1.size : Int) := w64 _ (by omega) (by omega)
        rw [e1, w64 (((rd_T36 l i).f0.size : Int) + ((rd_T36 l i).f1.size : Int) + 10) (by omega) (by omega), w64 (n + _) (by omega) (by omega), w64 ((i : Int) + 1) (by omega) (by omega)]
        refine small_l0 l hs k (i + 1) _ (by push_cast; omega) (by omega) (by omega) (by omega) ?_
        intro j hji hjl
        by_cases hji' : j < i
        · have := hj j hji' hjl
          omega
        · have : j = i := by omega
          subst this
          omega
      · rw [if_neg h3]
        exact ⟨_, rfl, fun e => absurd (of_decide_eq_true e) h3⟩
    · rw [if_neg hi]
      refine ⟨_, rfl, fun e => ?_⟩
      have h3 := of_decide_eq_true e
      refine ⟨by omega, fun x hx => ?_⟩
      obtain ⟨j, hjl, rfl⟩ := mem_rd hx
      have := hj j (by omega) hjl
      omega
theorem small_ok (l : List Hd) (hs : Short 1048576 l) (k : Nat) (hk : 301 ≤ k) : ∃ b, decorumlaw08_small.f k l = some b ∧ (b = true → l.length ≤ 300 ∧ Short 3000 l) := by
  exact small_l0 l hs k 0 0 (by omega) (by omega) (by omega) (by omega) (fun j hj => by omega)
/-- same: it answers. -/
theorem same_l0 (a b : ByteArray) (n : Int) (ha : n = a.size) (hb : n = b.size) (hn : n < 9223372036854775807) : ∀ (k i : Nat), (i : Int) ≤ n → n + 1 ≤ k + i → ∃ r, feed_same.l0 k a b n i = some r
  | 0, i, h, hk => by omega
  | k + 1, i, h, hk => by
    simp only [feed_same.l0]
    by_cases hi : (i : Int) < n
    · rw [if_pos hi, if_pos (by omega), if_pos (by omega), if_pos (by omega), w64 ((i : Int) + 1) (by omega) (by omega)]
      have ih := same_l0 a b n ha hb hn k (i + 1) (by omega) (by omega)
      push_cast at ih
      (repeat' split)
      all_goals first | exact ih | exact ⟨_, rfl⟩
    · rw [if_neg hi]
      exact ⟨_, rfl⟩
theorem same_ok (a b : ByteArray) (k : Nat) (hb : b.size < k) (hB : b.size < 1000000000) : ∃ r, feed_same.f k a b = some r := by
  unfold feed_same.f
  split
  · rename_i h
    exact same_l0 a b _ rfl h (by omega) k 0 (by omega) (by omega)
  · exact ⟨_, rfl⟩
/-- value: it answers; what it finds is no longer than a header's text. -/
theorem value_l0 (l : List Hd) (key : ByteArray) (B : Nat) (hs : Short B l) (hB : B < 1000000000) (hl : l.length < 1000000000) (hkey : key.size < 1000) : ∀ (k n : Nat), n ≤ l.length → n + 1001 ≤ k →
    ∃ t b, feed_value.l0 k l key ((n : Int) - 1) = some (t, b) ∧ t.size ≤ B ∧ (b = false → t = ⟨#[]⟩)
  | 0, n, _, hk => by omega
  | k + 1, n, hn, hk => by
    simp only [feed_value.l0]
    cases n with
    | zero =>
      rw [if_neg (by omega)]
      exact ⟨_, _, rfl, by simp [ByteArray.size], fun _ => rfl⟩
    | succ n =>
      have e : ((n + 1 : Nat) : Int) - 1 = (n : Int) := by omega
      rw [e, if_pos (by omega), if_pos (by omega), if_pos (by omega)]
      obtain ⟨r, hr⟩ := same_ok (rd_T36 l n).f0 key k (by omega) (by omega)
      rw [hr]
      simp only [Option.bind_some]
      have hm := hs _ (rd_mem (l := l) (i := (n : Int)) (by omega) (by omega))
      cases r with
      | true =>
        simp only [if_true]
        unfold strings_Trim.f
        rw [if_pos ⟨by omega, by decide, by decide⟩]
        refine ⟨_, _, rfl, ?_, fun e => by cases e⟩
        have h1 := FM.dropWhile_le (fun x => (⟨#[32, 9]⟩ : ByteArray).data.toList.contains x) ((rd_T36 l n).f1.data.toList.reverse)
        have h2 := FM.dropWhile_le (fun x => (⟨#[32, 9]⟩ : ByteArray).data.toList.contains x) (Lib.trimRightS (rd_T36 l n).f1.data.toList [32, 9])
        have e1 : ((rd_T36 l n).f1.data.toList).length = (rd_T36 l n).f1.size := Array.length_toList
        show (Lib.trimS _ _).toArray.size ≤ B
        rw [List.size_toArray]
        unfold Lib.trimS
        unfold Lib.trimLeftS at *
        unfold Lib.trimRightS at *
        simp only [List.length_reverse] at h1 h2 ⊢
        exact Nat.le_trans h2 (Nat.le_trans h1 (by omega))
      | false =>
        have ih := value_l0 l key B hs hB hl hkey k n (by omega) (by omega)
        rw [w64 ((n : Int) - 1) (by omega) (by omega)]
        simpa using ih
theorem value_ok (l : List Hd) (key : ByteArray) (B : Nat) (hs : Short B l) (hB : B < 1000000000) (hl : l.length < 1000000000) (hkey : key.size < 1000) (k : Nat) (hk : l.length + 1001 ≤ k) :
    ∃ t b, feed_value.f k l key = some (t, b) ∧ t.size ≤ B ∧ (b = false → t = ⟨#[]⟩) := by
  unfold feed_value.f
  rw [w64 _ (by omega) (by omega)]
  exact value_l0 l key B hs hB hl hkey k l.length (Nat.le_refl _) hk
end Go.Proofs.YtelgjeeleofgoaaGreatDoor

/- What layer 8's functions answer, in plain words, further: limit, later, Reset, Retry, From; FeedMost. -/
namespace Go.Proofs.YtelgjeeleofgoaaGreatDoor
open Go.RowKit Go.Proofs.YtelgjeeleofgoaaGreatDoorW.PrintWords PF
set_option linter.unusedVariables false
namespace FM
theorem pParams_len : ∀ (f : Nat) (l : Bs) (ps : List Pm) (r : Bs), pParams f l = some (ps, r) → ps.length + r.length ≤ l.length := by
  intro f
  induction f with
  | zero => intro l ps r h; simp [pParams] at h
  | succ f ih =>
    intro l ps r h
    match l, h with
    | [], h => simp [pParams] at h; obtain ⟨rfl, rfl⟩ := h; simp
    | c :: t, h =>
      simp only [pParams] at h
      split at h
      · have hd := dropWhile_le blank t
        split at h
        · cases h
        · rename_i k l1 hk
          have h1 := (pKey_le hk).1
          split at h
          · cases h
          · rename_i v l2 hb
            have h2 := pBehind_le hb
            cases hp : pParams f l2 with
            | none => rw [hp] at h; simp at h
            | some y =>
              obtain ⟨ps', r'⟩ := y
              have h3 := ih l2 ps' r' hp
              rw [hp] at h
              simp only [Option.map_some, Option.some.injEq, Prod.mk.injEq] at h
              obtain ⟨rfl, rfl⟩ := h
              simp only [List.length_cons]
              omega
      · simp only [Option.some.injEq, Prod.mk.injEq] at h
        obtain ⟨rfl, rfl⟩ := h
        simp
theorem pHead_le {l k l1 : Bs} {v : V} (h : pHead l = some (k, v, l1)) : l1.length ≤ l.length := by
  match l, h with
  | [], h => simp [pHead] at h
  | c :: t, h =>
    simp only [pHead] at h
    split at h
    · cases hq : pQuoted (t.length + 1) [] t with
      | none => rw [hq] at h; simp at h
      | some y =>
        obtain ⟨a, b⟩ := y
        have := (pQuoted_le _ _ _ _ _ hq).1
        rw [hq] at h
        simp only [Option.map_some, Option.some.injEq, Prod.mk.injEq] at h
        obtain ⟨_, _, rfl⟩ := h
        simp only [List.length_cons]
        omega
    · split at h
      · cases h
      · rename_i k' l' hk
        have h1 := (pKey_le hk).1
        cases hb : pBehind l' with
        | none => rw [hb] at h; simp at h
        | some y =>
          obtain ⟨v', l2⟩ := y
          have h2 := pBehind_le hb
          rw [hb] at h
          simp only [Option.map_some, Option.some.injEq, Prod.mk.injEq] at h
          obtain ⟨_, _, rfl⟩ := h
          omega
theorem pItem_len {l r : Bs} {x : It} (h : pItem l = some (x, r)) : x.ps.length ≤ l.length ∧ r.length ≤ l.length := by
  unfold pItem at h
  split at h
  · cases h
  · rename_i k v l1 hh
    have h1 := pHead_le hh
    cases hp : pParams (l1.length + 1) l1 with
    | none => rw [hp] at h; simp at h
    | some y =>
      obtain ⟨ps, r'⟩ := y
      have h2 := pParams_len _ _ _ _ hp
      rw [hp] at h
      simp only [Option.map_some, Option.some.injEq, Prod.mk.injEq] at h
      obtain ⟨rfl, rfl⟩ := h
      exact ⟨by show ps.length ≤ _; omega, by omega⟩
theorem pItems_len : ∀ (f : Nat) (l : Bs) (xs : List It), pItems f l = some xs → xs.length ≤ f ∧ ∀ x ∈ xs, x.ps.length ≤ l.length := by
  intro f
  induction f with
  | zero => intro l xs h; simp [pItems] at h
  | succ f ih =>
    intro l xs h
    simp only [pItems] at h
    split at h
    · cases h
    · rename_i x l1 hx
      obtain ⟨h1, h2⟩ := pItem_len hx
      split at h
      · simp only [Option.some.injEq] at h
        subst h
        exact ⟨by simp, by simpa using h1⟩
      · rename_i c r hc
        have hd := dropWhile_le blank2 l1
        have hd2 := dropWhile_le blank2 r
        rw [hc] at hd
        simp only [List.length_cons] at hd
        split at h
        · cases hp : pItems f (r.dropWhile blank2) with
          | none => rw [hp] at h; simp at h
          | some ys =>
            have h3 := ih _ _ hp
            rw [hp] at h
            simp only [Option.map_some, Option.some.injEq] at h
            subst h
            refine ⟨by simp only [List.length_cons]; omega, fun y hy => ?_⟩
            rcases List.mem_cons.1 hy with rfl | hy
            · exact h1
            · have := h3.2 y hy
              omega
        · cases h
theorem trim_len (l : Bs) : (trim blank l).length ≤ l.length := by
  unfold trim
  have h1 := dropWhile_le blank (l.reverse.dropWhile blank).reverse
  have h2 := dropWhile_le blank l.reverse
  simp at h1 h2
  omega
theorem pParse_len {l : Bs} {xs : List It} (h : pParse l = some xs) : xs.length ≤ 16 ∧ ∀ x ∈ xs, x.ps.length ≤ l.length := by
  unfold pParse at h
  split at h
  · simp only [Option.some.injEq] at h
    subst h
    exact ⟨by simp, by simp⟩
  · have h1 := pItems_len _ _ _ h
    have h2 := trim_len l
    exact ⟨h1.1, fun x hx => Nat.le_trans (h1.2 x hx) h2⟩
end FM
theorem fparse_ok (a : ByteArray) (h : a.size < 1000000000) : ∃ l ok, field_Parse.f a = some (l, ok) ∧ l.length ≤ 16 ∧ ∀ x ∈ l, x.f2.length ≤ a.size := by
  have e1 : a.data.toList.length = a.size := Array.length_toList
  unfold field_Parse.f
  rw [if_pos (by omega)]
  cases hp : FM.pParse a.data.toList with
  | none => exact ⟨[], false, rfl, by simp, by simp⟩
  | some xs =>
    have h1 := FM.pParse_len hp
    refine ⟨_, _, rfl, by rw [List.length_map]; exact h1.1, fun x hx => ?_⟩
    obtain ⟨y, hy, rfl⟩ := List.mem_map.1 hx
    have := h1.2 y hy
    show (y.ps.map FM.Pm.out).length ≤ _
    rw [List.length_map]
    omega
theorem fnum_ok (a b : Int) (c : ByteArray) : ∃ r ok, field_number.f a b c = some (r, ok) := by
  unfold field_number.f
  split
  · exact ⟨_, _, rfl⟩
  · exact ⟨_, _, rfl⟩
theorem Number_l0 (l : List S56) (key : ByteArray) (hl : l.length < 1000000000) : ∀ (k n : Nat), n ≤ l.length → n + 1 ≤ k → ∃ r b, field_Number.l0 k l key ((n : Int) - 1) = some (r, b)
  | 0, n, _, hk => by omega
  | k + 1, n, hn, hk => by
    simp only [field_Number.l0]
    cases n with
    | zero => rw [if_neg (by omega)]; exact ⟨_, _, rfl⟩
    | succ n =>
      have e : ((n + 1 : Nat) : Int) - 1 = (n : Int) := by omega
      rw [e, if_pos (by omega), if_pos (by omega), if_pos (by omega)]
      split
      · obtain ⟨r, ok, hr⟩ := fnum_ok (rd_T56 l n).f1.f0 (rd_T56 l n).f1.f1 (rd_T56 l n).f1.f2
        rw [hr]
        exact ⟨_, _, rfl⟩
      · rw [w64 ((n : Int) - 1) (by omega) (by omega)]
        exact Number_l0 l key hl k n (by omega) (by omega)
theorem Number_ok (l : List S56) (key : ByteArray) (hl : l.length < 1000000000) (k : Nat) (hk : l.length + 1 ≤ k) : ∃ r b, field_Number.f k l key = some (r, b) := by
  unfold field_Number.f
  rw [w64 _ (by omega) (by omega)]
  exact Number_l0 l key hl k l.length (Nat.le_refl _) hk
theorem Param_l0 (l : List S87) (key : ByteArray) (a d : ByteArray) (b c : Int) (hl : l.length < 1000000000) : ∀ (k n : Nat), n ≤ l.length → n + 1 ≤ k → ∃ r ok, field_Param.l0 k key ((n : Int) - 1) a b c d l = some (r, ok)
  | 0, n, _, hk => by omega
  | k + 1, n, hn, hk => by
    simp only [field_Param.l0]
    cases n with
    | zero => rw [if_neg (by omega)]; exact ⟨_, _, rfl⟩
    | succ n =>
      have e : ((n + 1 : Nat) : Int) - 1 = (n : Int) := by omega
      rw [e, if_pos (by omega), if_pos (by omega), if_pos (by omega)]
      split
      · obtain ⟨r, ok, hr⟩ := fnum_ok (rd_T87 l n).f1.f0 (rd_T87 l n).f1.f1 (rd_T87 l n).f1.f2
        rw [hr]
        exact ⟨_, _, rfl⟩
      · rw [w64 ((n : Int) - 1) (by omega) (by omega)]
        exact Param_l0 l key a d b c hl k n (by omega) (by omega)
theorem Param_ok (l : List S87) (key : ByteArray) (a d : ByteArray) (b c : Int) (hl : l.length < 1000000000) (k : Nat) (hk : l.length + 1 ≤ k) : ∃ r ok, field_Param.f k a b c d l key = some (r, ok) := by
  unfold field_Param.f
  rw [w64 _ (by omega) (by omega)]
  exact Param_l0 l key a d b c hl k l.length (Nat.le_refl _) hk
theorem rdI_mem {l : List S56} {i : Int} (h0 : 0 ≤ i) (h1 : i < l.length) : rd_T56 l i ∈ l := by
  unfold rd_T56
  have hi : i.toNat < l.length := by omega
  rw [List.getD_eq_getElem?_getD, List.getElem?_eq_getElem hi]
  exact List.getElem_mem hi
theorem limit_l0 (l : List S56) (P : Nat) (hP : ∀ x ∈ l, x.f2.length ≤ P) (hPB : P < 1000000000) (hl : l.length < 1000000000) : ∀ (k i : Nat) (x : Int) (b : Bool), i ≤ l.length → l.length + P + 5 ≤ k + i → P + 4 ≤ k → ∃ r ok, feed_limit.l0 k x b l l.length i = some (r, ok)
  | 0, i, x, b, _, _, hk => by omega
  | k + 1, i, x, b, hi, hk, hk1 => by
    simp only [feed_limit.l0]
    by_cases h : (i : Int) < l.length
    · rw [if_pos h, if_pos (by omega)]
      have hm := hP _ (rdI_mem (l := l) (i := (i : Int)) (by omega) h)
      obtain ⟨r1, ok1, e1⟩ := Param_ok (rd_T56 l i).f2 (⟨#[114]⟩ : ByteArray) (rd_T56 l i).f0 (rd_T56 l i).f1.f2 (rd_T56 l i).f1.f0 (rd_T56 l i).f1.f1 (by omega) k (by omega)
      obtain ⟨r2, ok2, e2⟩ := Param_ok (rd_T56 l i).f2 (⟨#[116]⟩ : ByteArray) (rd_T56 l i).f0 (rd_T56 l i).f1.f2 (rd_T56 l i).f1.f0 (rd_T56 l i).f1.f1 (by omega) k (by omega)
      rw [e1, e2]
      simp only [Option.bind_some]
      have ih := fun y c => limit_l0 l P hP hPB hl k (i + 1) y c (by omega) (by omega) (by omega)
      push_cast at ih
      rw [if_pos h, w64 ((i : Int) + 1) (by omega) (by omega)]
      (repeat' split) <;> exact ih _ _
    · rw [if_neg h]
      exact ⟨_, _, rfl⟩
theorem limit_ok (a : ByteArray) (h : a.size ≤ 3000) (k : Nat) (hk : 5000 ≤ k) : ∃ r ok, feed_limit.f k a = some (r, ok) := by
  obtain ⟨l, ok, e, hl, hP⟩ := fparse_ok a (by omega)
  unfold feed_limit.f
  rw [e]
  simp only [Option.bind_some]
  split
  · obtain ⟨r1, b1, e1⟩ := Number_ok l (⟨#[114, 101, 109, 97, 105, 110, 105, 110, 103]⟩ : ByteArray) (by omega) k (by omega)
    obtain ⟨r2, b2, e2⟩ := Number_ok l (⟨#[114, 101, 115, 101, 116]⟩ : ByteArray) (by omega) k (by omega)
    rw [e1, e2]
    simp only [Option.bind_some]
    have hj : ∀ x b, ∃ r ok, feed_limit.j0 k l x b = some (r, ok) := by
      intro x b
      obtain ⟨k', rfl⟩ : ∃ k', k = k' + 1 := ⟨k - 1, by omega⟩
      simp only [feed_limit.j0]
      split
      · exact ⟨_, _, rfl⟩
      · exact limit_l0 l a.size hP (by omega) (by omega) k' 0 0 false (by omega) (by omega) (by omega)
    (repeat' split) <;> exact hj _ _
  · exact ⟨_, _, rfl⟩
/-- What is told of a moment: from 0 to the end. -/
def InT (o : Option (Int × Bool)) : Prop := ∃ r ok, o = some (r, ok) ∧ 0 ≤ r ∧ r ≤ 1099511627776
theorem tmul_nn (a b : Int) (ha : 0 ≤ a) (hb : 0 ≤ b) : 0 ≤ tmul a b := by
  have h1 : 0 ≤ held a := by unfold held; split <;> (try split) <;> omega
  have h2 : 0 ≤ held b := by unfold held; split <;> (try split) <;> omega
  unfold tmul
  have d1 : decide (held a < 0) = false := decide_eq_false (by omega)
  have d2 : decide (held b < 0) = false := decide_eq_false (by omega)
  simp only [d1, d2]
  simp only [bne_self_eq_false, Bool.false_eq_true, if_false]
  split <;> omega
theorem tadd_nn (a b : Int) (ha : 0 ≤ a) (hb : 0 ≤ b) : 0 ≤ tadd a b := by
  unfold tadd held
  (repeat' split) <;> omega
theorem mn_bd (x c : Int) (hx : 0 ≤ x) (hc : 0 ≤ c) : 0 ≤ mn x c ∧ mn x c ≤ c := by unfold mn; split <;> omega
theorem later_ok (a s : Int) (ha : 0 ≤ a) : InT (feed_later.f a s) := by
  unfold feed_later.f
  split
  · exact ⟨0, false, rfl, by omega, by omega⟩
  · rename_i hs
    have := mn_bd (tadd a (tmul s 1000)) 1099511627776 (tadd_nn _ _ ha (tmul_nn _ _ (by omega) (by omega))) (by omega)
    exact ⟨_, true, rfl, this.1, this.2⟩
theorem clock_bd (a : Int) : 0 ≤ mx 0 (mn a 1099511627776) ∧ mx 0 (mn a 1099511627776) ≤ 1099511627776 := by unfold mx mn; (repeat' split) <;> omega
theorem fdig_ok (a : ByteArray) (h : a.size ≤ 4000000) : feed_digits.f a = some ((digitsM a).getD 0, (digitsM a).isSome) := by
  unfold feed_digits.f
  rw [if_pos (by omega)]
theorem elder_ok (l : List Hd) (hs : Short 3000 l) (hl : l.length ≤ 300) (k : Nat) (hk : 5000 ≤ k) : ∃ r ok, feed_elder.f k l = some (r, ok) := by
  unfold feed_elder.f
  obtain ⟨t1, b1, e1, s1, _⟩ := value_ok l (⟨#[88, 45, 82, 97, 116, 101, 76, 105, 109, 105, 116, 45, 82, 101, 109, 97, 105, 110, 105, 110, 103]⟩ : ByteArray) 3000 hs (by omega) (by omega) (by decide) k (by omega)
  obtain ⟨t2, b2, e2, s2, _⟩ := value_ok l (⟨#[88, 45, 82, 97, 116, 101, 76, 105, 109, 105, 116, 45, 82, 101, 115, 101, 116]⟩ : ByteArray) 3000 hs (by omega) (by omega) (by decide) k (by omega)
  rw [e1, e2]
  simp only [Option.bind_some]
  rw [fdig_ok t1 (by omega), fdig_ok t2 (by omega)]
  simp only [Option.bind_some]
  (repeat' split) <;> exact ⟨_, _, rfl⟩
theorem Reset_ok (l : List Hd) (a : Int) (hs : Short 3000 l) (hl : l.length ≤ 300) (k : Nat) (hk : 5001 ≤ k) : InT (feed_Reset.f k l a) := by
  unfold feed_Reset.f feed_clock.f
  simp only [Option.bind_some]
  have hc := clock_bd a
  obtain ⟨c, hce⟩ : ∃ c, mx 0 (mn a 1099511627776) = c := ⟨_, rfl⟩
  rw [hce] at hc ⊢
  have hj : InT (feed_Reset.j0 k l c) := by
    obtain ⟨k', rfl⟩ : ∃ k', k = k' + 1 := ⟨k - 1, by omega⟩
    simp only [feed_Reset.j0]
    obtain ⟨r, ok, e⟩ := elder_ok l hs hl k' (by omega)
    rw [e]
    simp only [Option.bind_some]
    split
    · obtain ⟨r', ok', e', h'⟩ := later_ok c r hc.1
      rw [e']
      exact ⟨r', ok', rfl, h'⟩
    · exact ⟨0, false, rfl, by omega, by omega⟩
  obtain ⟨t1, b1, e1, s1, _⟩ := value_ok l (⟨#[82, 97, 116, 101, 76, 105, 109, 105, 116]⟩ : ByteArray) 3000 hs (by omega) (by omega) (by decide) k (by omega)
  rw [e1]
  simp only [Option.bind_some]
  split
  · obtain ⟨r, ok, e⟩ := limit_ok t1 s1 k (by omega)
    rw [e]
    simp only [Option.bind_some]
    split
    · obtain ⟨r', ok', e', h'⟩ := later_ok c r hc.1
      rw [e']
      exact ⟨r', ok', rfl, h'⟩
    · exact hj
  · exact hj
theorem Retry_ok (s : ByteArray) (a : Int) (hs : s.size ≤ 3000000) : InT (feed_Retry.f s a) := by
  unfold feed_Retry.f feed_clock.f
  simp only [Option.bind_some]
  have hc := clock_bd a
  obtain ⟨c, hce⟩ : ∃ c, mx 0 (mn a 1099511627776) = c := ⟨_, rfl⟩
  rw [hce] at hc ⊢
  unfold strings_Trim.f
  rw [if_pos ⟨by omega, by decide, by decide⟩]
  simp only [Option.bind_some]
  obtain ⟨t, ht⟩ : ∃ t, (⟨(Lib.trimS s.data.toList (⟨#[32, 9]⟩ : ByteArray).data.toList).toArray⟩ : ByteArray) = t := ⟨_, rfl⟩
  have hts : t.size ≤ s.size := by
    rw [← ht]
    show (Lib.trimS _ _).toArray.size ≤ _
    have e1 : s.data.toList.length = s.size := Array.length_toList
    have h1 := FM.dropWhile_le (fun x => (⟨#[32, 9]⟩ : ByteArray).data.toList.contains x) (s.data.toList.reverse)
    have h2 := FM.dropWhile_le (fun x => (⟨#[32, 9]⟩ : ByteArray).data.toList.contains x) (Lib.trimRightS s.data.toList [32, 9])
    rw [List.size_toArray]
    unfold Lib.trimS
    unfold Lib.trimLeftS at *
    unfold Lib.trimRightS at *
    simp only [List.length_reverse] at h1 h2 ⊢
    exact Nat.le_trans h2 (Nat.le_trans h1 (by omega))
  rw [ht, fdig_ok t (by omega)]
  simp only [Option.bind_some]
  split
  · obtain ⟨r', ok', e', h'⟩ := later_ok c ((digitsM t).getD 0) hc.1
    rw [e']
    exact ⟨r', ok', rfl, h'⟩
  · unfold date_Parse.f
    rw [if_pos (by omega)]
    simp only [Option.bind_some]
    split
    · split
      · exact ⟨0, false, rfl, by omega, by omega⟩
      · have := mn_bd (tmul ((parseM t (wrap64 (Int.tdiv c 1000))).getD 0) 1000) 1099511627776 (tmul_nn _ _ (by omega) (by omega)) (by omega)
        exact ⟨_, true, rfl, this.1, this.2⟩
    · exact ⟨0, false, rfl, by omega, by omega⟩
theorem Class_ok (a : Int) (k : Nat) (hk : 10 ≤ k) : ∃ r, feed_Class.f k a = some r ∧ 1 ≤ r ∧ r ≤ 4 := by
  obtain ⟨k', rfl⟩ : ∃ k', k = k' + 2 := ⟨k - 2, by omega⟩
  unfold feed_Class.f
  simp only [feed_Class.j0, feed_Class.j1]
  (repeat' split) <;> exact ⟨_, rfl, by omega, by omega⟩
theorem fvalue_nil (key : ByteArray) (k : Nat) (hk : 1 ≤ k) : feed_value.f k [] key = some (⟨#[]⟩, false) := by
  obtain ⟨k', rfl⟩ : ∃ k', k = k' + 1 := ⟨k - 1, by omega⟩
  unfold feed_value.f
  rw [w64 _ (by simp) (by simp)]
  simp [feed_value.l0]
theorem Reset_nil (a : Int) (k : Nat) (hk : 2 ≤ k) : feed_Reset.f k [] a = some (0, false) := by
  obtain ⟨k', rfl⟩ : ∃ k', k = k' + 1 := ⟨k - 1, by omega⟩
  have hd : feed_digits.f (⟨#[]⟩ : ByteArray) = some (0, false) := by kernel_rfl
  unfold feed_Reset.f feed_clock.f
  rw [fvalue_nil _ _ (by omega)]
  simp only [Option.bind_some, Bool.false_eq_true, if_false, feed_Reset.j0, feed_elder.f]
  rw [fvalue_nil _ k' (by omega), fvalue_nil _ k' (by omega)]
  simp only [Option.bind_some, hd, Bool.false_eq_true, if_false]
theorem From_ok (st : Int) (l : List Hd) (a : Int) (hs : Short 3000 l) (hl : l.length ≤ 300) (k : Nat) (hk : 5001 ≤ k) :
    ∃ c r q, feed_From.f k st l a = some (c, r, q) ∧ feed_Class.f k st = some c ∧ 1 ≤ c ∧ c ≤ 4 ∧ 0 ≤ r ∧ r ≤ 1099511627776 ∧ 0 ≤ q ∧ q ≤ 1099511627776 := by
  obtain ⟨c, hc, h1, h4⟩ := Class_ok st k (by omega)
  obtain ⟨q, b, hq, q0, q1⟩ := Reset_ok l a hs hl k hk
  unfold feed_From.f
  obtain ⟨t1, b1, e1, s1, _⟩ := value_ok l (⟨#[82, 101, 116, 114, 121, 45, 65, 102, 116, 101, 114]⟩ : ByteArray) 3000 hs (by omega) (by omega) (by decide) k (by omega)
  rw [hc, e1, hq]
  simp only [Option.bind_some]
  split
  · obtain ⟨r, ok, e, r0, r1⟩ := Retry_ok t1 a (by omega)
    rw [e]
    exact ⟨c, r, q, rfl, rfl, h1, h4, r0, r1, q0, q1⟩
  · exact ⟨c, 0, q, rfl, rfl, h1, h4, by omega, by omega, q0, q1⟩
theorem From_nil (st : Int) (a : Int) (k : Nat) (hk : 10 ≤ k) (c : Int) (hc : feed_Class.f k st = some c) : feed_From.f k st [] a = some (c, 0, 0) := by
  unfold feed_From.f
  rw [hc, fvalue_nil _ k (by omega), Reset_nil a k (by omega)]
  simp
theorem awake_up (k : Nat) (hk : 40 ≤ k) : decorumlaw08_awake.f k = some true := at_rounds decorumlaw08_awake.mono hk awake_40
theorem most_true (st : Int) (l : List Hd) (a : Int) (hs : Short 1048576 l) : decorumlaw08_FeedMost.f 6000 st l a = some true := by
  unfold decorumlaw08_FeedMost.f
  obtain ⟨b, hb, hb2⟩ := small_ok l hs 6000 (by omega)
  rw [hb]
  simp only [Option.bind_some, awake_up 6000 (by omega)]
  cases b with
  | false => rfl
  | true =>
    obtain ⟨hl, hs3⟩ := hb2 rfl
    obtain ⟨c, r, q, e, hc, h1, h4, r0, r1, q0, q1⟩ := From_ok st l a hs3 hl 6000 (by omega)
    rw [e, From_nil st a 6000 (by omega) c hc]
    simp only [Option.bind_some, if_true]
    rw [if_pos r0, if_pos r1, if_pos q0, if_pos q1]
    simp [h1, h4]
end Go.Proofs.YtelgjeeleofgoaaGreatDoor

-- Printed by a program of this session (wip/pp.sh) out of the translation. Not trusted: Lean checks it.
namespace Go.Proofs.YtelgjeeleofgoaaGreatDoor.PF
open Go.RowKit Go.Proofs.YtelgjeeleofgoaaGreatDoorW.PrintWords Go.Proofs.YtelgjeeleofgoaaGreatDoorW.PrintLast Go.Proofs.YtelgjeeleofgoaaGreatDoorW.PrintMore
attribute [local go_sem] max2_int min2_int max_two min_two max_three min_three max_four min_four   -- for this text's walks alone
set_option linter.unusedVariables false
set_option linter.unusedSimpArgs false
noncomputable section

/-! ### decorumlaw08_FeedLater: function 5 -/
def decorumlaw08_FeedLater.l0 : Nat → Int → Int → ByteArray → Int → Option (Bool)
  | 0, _, _, _, _ => none
  | k + 1, x1, x2, x7, x8 => (some (([((48 + (Int.tmod x8 10)) % 4294967296) % 256] : List Int) : List Int)).bind fun y198 => (if (strOfNums y198).size + x7.size ≤ 9223372036854775807 then (if x8 < 10 then ((feed_Retry.f ((strOfNums y198) ++ x7) (wrap64 (x1))).bind fun bt201 => ((feed_Retry.f ((strOfNums y198) ++ x7) (wrap64 ((wrap64 (x1)) + (wrap64 (x2))))).bind fun bt203 => ((feed_Reset.f k (([(⟨(⟨#[120, 45, 114, 97, 116, 101, 108, 105, 109, 105, 116, 45, 114, 101, 109, 97, 105, 110, 105, 110, 103]⟩ : ByteArray), (⟨#[48]⟩ : ByteArray)⟩ : S36), (⟨(⟨#[88, 45, 82, 65, 84, 69, 76, 73, 77, 73, 84, 45, 82, 69, 83, 69, 84]⟩ : ByteArray), (strOfNums y198) ++ x7⟩ : S36)] : List (S36))) (wrap64 (x1))).bind fun bt208 => ((decorumlaw08_awake.f k).bind fun t210 => (if t210 = true then (if bt201.2 = true then (if bt203.2 = true then (if bt208.2 = true then (if bt201.1 = bt208.1 then (if bt201.1 ≥ (wrap64 (x1)) then (if bt201.1 ≤ 1099511627776 then (some (decide (bt203.1 ≥ bt201.1))) else (some false)) else (some false)) else (some false)) else (some false)) else (some false)) else (some false)) else (some false)))))) else (decorumlaw08_FeedLater.l0 k x1 x2 ((strOfNums y198) ++ x7) ((Int.tdiv x8 10) % 4294967296))) else (none))
def decorumlaw08_FeedLater.f (k : Nat) (a0 : Int) (a1 : Int) (a2 : Int) : Option (Bool) := decorumlaw08_FeedLater.l0 k a1 a2 (⟨#[]⟩ : ByteArray) a0
theorem decorumlaw08_FeedLater.mono_l : ∀ k, (∀ y0 y1 y2 y3, LeO (decorumlaw08_FeedLater.l0 k y0 y1 y2 y3) (decorumlaw08_FeedLater.l0 (k + 1) y0 y1 y2 y3))
  | 0 => fun _ _ _ _ r h => by simp [decorumlaw08_FeedLater.l0] at h
  | k + 1 => by
    have ih0 := decorumlaw08_FeedLater.mono_l k
    · intro y0 y1 y2 y3
      unfold decorumlaw08_FeedLater.l0
      repeat' first
      | (with_reducible exact ih0 _ _ _ _)
      | (with_reducible exact decorumlaw08_awake.mono _)
      | (with_reducible exact feed_Reset.mono _ _ _)
      | (with_reducible exact LeO.refl _)
      | (with_reducible exact LeO.none _)
      | (with_reducible refine LeO.ite ?_ ?_)
      | (with_reducible refine LeO.bind ?_ (fun _ => ?_))
      | exact ih0 _ _ _ _
      | exact decorumlaw08_awake.mono _
      | exact feed_Reset.mono _ _ _
      | exact LeO.none _
      | refine LeO.ite ?_ ?_
      | refine LeO.bind ?_ (fun _ => ?_)
theorem decorumlaw08_FeedLater.mono : ∀ a0 a1 a2 k, LeO (decorumlaw08_FeedLater.f k a0 a1 a2) (decorumlaw08_FeedLater.f (k + 1) a0 a1 a2) := by
  intro a0 a1 a2 k
  have ih0 := decorumlaw08_FeedLater.mono_l k
  unfold decorumlaw08_FeedLater.f
  repeat' first
      | (with_reducible exact ih0 _ _ _ _)
      | (with_reducible exact decorumlaw08_awake.mono _)
      | (with_reducible exact feed_Reset.mono _ _ _)
      | (with_reducible exact LeO.refl _)
      | (with_reducible exact LeO.none _)
      | (with_reducible refine LeO.ite ?_ ?_)
      | (with_reducible refine LeO.bind ?_ (fun _ => ?_))
      | exact ih0 _ _ _ _
      | exact decorumlaw08_awake.mono _
      | exact feed_Reset.mono _ _ _
      | exact LeO.none _
      | refine LeO.ite ?_ ?_
      | refine LeO.bind ?_ (fun _ => ?_)
set_option maxHeartbeats 8000000 in
set_option maxRecDepth 100000 in
theorem decorumlaw08_FeedLater.calls (k : Nat) (a0 : Int) (a1 : Int) (a2 : Int) (r : Bool) (w : World) (hG : Glob w) (h : decorumlaw08_FeedLater.f k a0 a1 a2 = some r) :
    Calls Tryz.prog 5 #[.int .u32 a0, .int .u32 a1, .int .u32 a2] w fun e w' => e = .returned (.bool r) ∧ Below w.heap.size w w' := by
  have hu36 := Tryz.underlying36
  have HB := Aside0.mk (Below.refl w.heap.size w)
  have HG := Aside0.mk hG
  clear hG
  have H : (decorumlaw08_FeedLater.l0 k a1 a2 (⟨#[]⟩ : ByteArray) a0) = some r := h
  clear h
  have H' := Aside0.mk H
  clear H
  go_enter Tryz.func5, Tryz.ntmps5
  go_wp2
  go_loopg [7, 8] k (fun kq v7 v8 w' => ∃ (x7_1 : ByteArray) (x8_1 : Int), v7 = .string x7_1 ∧ v8 = .int .u32 x8_1 ∧ Aside0 (decorumlaw08_FeedLater.l0 kq a1 a2 x7_1 x8_1 = some r) ∧ Aside0 (kq ≤ k) ∧ Aside0 (Below w.heap.size w w'))
  case atStart => exact ⟨((⟨#[]⟩ : ByteArray)), (a0), (by first | rfl | (simp; done) | (simp [*]; done)), (by first | rfl | (simp; done) | (simp [*]; done)), H', ⟨Nat.le_refl _⟩, ⟨by repeat (first | (with_reducible first | exact HB.out | apply below_alloc | apply pw_below_drewN | apply below_drew1) | exact HB.out)⟩⟩
  case round =>
    clear H'
    try clear p2
    obtain ⟨x7_1, x8_1, rfl, rfl, HA, HK1, HB⟩ := hrel
    cases gk with
    | zero => exact absurd HA.out (by simp [decorumlaw08_FeedLater.l0])
    | succ k1 =>
      have H := HA.out
      clear HA
      simp only [decorumlaw08_FeedLater.l0] at H
      obtain ⟨y198, hy198⟩ : ∃ y_ : List Int, y_ = (([((48 + (Int.tmod x8_1 10)) % 4294967296) % 256] : List Int)) := ⟨_, rfl⟩
      replace H : (if (strOfNums y198).size + x7_1.size ≤ 9223372036854775807 then (if x8_1 < 10 then ((feed_Retry.f ((strOfNums y198) ++ x7_1) (wrap64 (a1))).bind fun bt201 => ((feed_Retry.f ((strOfNums y198) ++ x7_1) (wrap64 ((wrap64 (a1)) + (wrap64 (a2))))).bind fun bt203 => ((feed_Reset.f k1 (([(⟨(⟨#[120, 45, 114, 97, 116, 101, 108, 105, 109, 105, 116, 45, 114, 101, 109, 97, 105, 110, 105, 110, 103]⟩ : ByteArray), (⟨#[48]⟩ : ByteArray)⟩ : S36), (⟨(⟨#[88, 45, 82, 65, 84, 69, 76, 73, 77, 73, 84, 45, 82, 69, 83, 69, 84]⟩ : ByteArray), (strOfNums y198) ++ x7_1⟩ : S36)] : List (S36))) (wrap64 (a1))).bind fun bt208 => ((decorumlaw08_awake.f k1).bind fun t210 => (if t210 = true then (if bt201.2 = true then (if bt203.2 = true then (if bt208.2 = true then (if bt201.1 = bt208.1 then (if bt201.1 ≥ (wrap64 (a1)) then (if bt201.1 ≤ 1099511627776 then (some (decide (bt203.1 ≥ bt201.1))) else (some false)) else (some false)) else (some false)) else (some false)) else (some false)) else (some false)) else (some false)))))) else (decorumlaw08_FeedLater.l0 k1 a1 a2 ((strOfNums y198) ++ x7_1) ((Int.tdiv x8_1 10) % 4294967296))) else (none)) = some r := by first | (rw [hy198]; with_reducible exact H) | (have H2_ := (Option.bind_some _ _).symm.trans H; rw [hy198]; with_reducible exact H2_) | (have H2_ := (Option.bind_some _ _).symm.trans H; with_reducible exact H2_) | with_reducible exact H | (rw [hy198]; exact H) | exact H
      have Ny198 := Aside0.mk hy198
      clear hy198
      by_cases c4 : (strOfNums y198).size + x7_1.size ≤ 9223372036854775807
      · rw [if_pos c4] at H
        have c4b0 := eq_true c4
        have c4b1 : decide ((strOfNums y198).size + x7_1.size ≤ 9223372036854775807) = true := decide_eq_true c4
        try have c4b2 : (9223372036854775807 < (strOfNums y198).size + x7_1.size) = False := eq_false (Nat.not_lt.2 c4)
        by_cases c5 : x8_1 < 10
        · rw [if_pos c5] at H
          have c5b0 : decide (x8_1 < 10) = true := decide_eq_true c5
          clear c5
          replace H := Option.bind_eq_some_iff.mp H
          obtain ⟨⟨t201, t202⟩, A60, H⟩ := H
          replace H : ((feed_Retry.f ((strOfNums y198) ++ x7_1) (wrap64 ((wrap64 (a1)) + (wrap64 (a2))))).bind fun bt203 => ((feed_Reset.f k1 (([(⟨(⟨#[120, 45, 114, 97, 116, 101, 108, 105, 109, 105, 116, 45, 114, 101, 109, 97, 105, 110, 105, 110, 103]⟩ : ByteArray), (⟨#[48]⟩ : ByteArray)⟩ : S36), (⟨(⟨#[88, 45, 82, 65, 84, 69, 76, 73, 77, 73, 84, 45, 82, 69, 83, 69, 84]⟩ : ByteArray), (strOfNums y198) ++ x7_1⟩ : S36)] : List (S36))) (wrap64 (a1))).bind fun bt208 => ((decorumlaw08_awake.f k1).bind fun t210 => (if t210 = true then (if t202 = true then (if bt203.2 = true then (if bt208.2 = true then (if t201 = bt208.1 then (if t201 ≥ (wrap64 (a1)) then (if t201 ≤ 1099511627776 then (some (decide (bt203.1 ≥ t201))) else (some false)) else (some false)) else (some false)) else (some false)) else (some false)) else (some false)) else (some false))))) = some r := H
          have A6 := Aside0.mk A60
          clear A60
          replace H := Option.bind_eq_some_iff.mp H
          obtain ⟨⟨t203, t204⟩, A70, H⟩ := H
          replace H : ((feed_Reset.f k1 (([(⟨(⟨#[120, 45, 114, 97, 116, 101, 108, 105, 109, 105, 116, 45, 114, 101, 109, 97, 105, 110, 105, 110, 103]⟩ : ByteArray), (⟨#[48]⟩ : ByteArray)⟩ : S36), (⟨(⟨#[88, 45, 82, 65, 84, 69, 76, 73, 77, 73, 84, 45, 82, 69, 83, 69, 84]⟩ : ByteArray), (strOfNums y198) ++ x7_1⟩ : S36)] : List (S36))) (wrap64 (a1))).bind fun bt208 => ((decorumlaw08_awake.f k1).bind fun t210 => (if t210 = true then (if t202 = true then (if t204 = true then (if bt208.2 = true then (if t201 = bt208.1 then (if t201 ≥ (wrap64 (a1)) then (if t201 ≤ 1099511627776 then (some (decide (t203 ≥ t201))) else (some false)) else (some false)) else (some false)) else (some false)) else (some false)) else (some false)) else (some false)))) = some r := H
          have A7 := Aside0.mk A70
          clear A70
          obtain ⟨y205, hy205⟩ : ∃ y_ : List (S36), y_ = (([(⟨(⟨#[120, 45, 114, 97, 116, 101, 108, 105, 109, 105, 116, 45, 114, 101, 109, 97, 105, 110, 105, 110, 103]⟩ : ByteArray), (⟨#[48]⟩ : ByteArray)⟩ : S36), (⟨(⟨#[88, 45, 82, 65, 84, 69, 76, 73, 77, 73, 84, 45, 82, 69, 83, 69, 84]⟩ : ByteArray), (strOfNums y198) ++ x7_1⟩ : S36)] : List (S36))) := ⟨_, rfl⟩
          replace H : ((feed_Reset.f k1 y205 (wrap64 (a1))).bind fun bt208 => ((decorumlaw08_awake.f k1).bind fun t210 => (if t210 = true then (if t202 = true then (if t204 = true then (if bt208.2 = true then (if t201 = bt208.1 then (if t201 ≥ (wrap64 (a1)) then (if t201 ≤ 1099511627776 then (some (decide (t203 ≥ t201))) else (some false)) else (some false)) else (some false)) else (some false)) else (some false)) else (some false)) else (some false)))) = some r := by first | (rw [hy205]; with_reducible exact H) | (have H2_ := (Option.bind_some _ _).symm.trans H; rw [hy205]; with_reducible exact H2_) | (have H2_ := (Option.bind_some _ _).symm.trans H; with_reducible exact H2_) | with_reducible exact H | (rw [hy205]; exact H) | exact H
          have Ny205 := Aside0.mk hy205
          clear hy205
          replace H := Option.bind_eq_some_iff.mp H
          obtain ⟨⟨t208, t209⟩, A80, H⟩ := H
          replace H : ((decorumlaw08_awake.f k1).bind fun t210 => (if t210 = true then (if t202 = true then (if t204 = true then (if t209 = true then (if t201 = t208 then (if t201 ≥ (wrap64 (a1)) then (if t201 ≤ 1099511627776 then (some (decide (t203 ≥ t201))) else (some false)) else (some false)) else (some false)) else (some false)) else (some false)) else (some false)) else (some false))) = some r := H
          have A8 := Aside0.mk A80
          clear A80
          replace H := Option.bind_eq_some_iff.mp H
          obtain ⟨t210, A90, H⟩ := H
          replace H : (if t210 = true then (if t202 = true then (if t204 = true then (if t209 = true then (if t201 = t208 then (if t201 ≥ (wrap64 (a1)) then (if t201 ≤ 1099511627776 then (some (decide (t203 ≥ t201))) else (some false)) else (some false)) else (some false)) else (some false)) else (some false)) else (some false)) else (some false)) = some r := H
          have A9 := Aside0.mk A90
          clear A90
          by_cases c10 : t210 = true
          · subst c10
            have H1 : (if t202 = true then (if t204 = true then (if t209 = true then (if t201 = t208 then (if t201 ≥ (wrap64 (a1)) then (if t201 ≤ 1099511627776 then (some (decide (t203 ≥ t201))) else (some false)) else (some false)) else (some false)) else (some false)) else (some false)) else (some false)) = some r := by rw [if_pos rfl] at H; exact H
            clear H
            have H := H1
            clear H1
            by_cases c11 : t202 = true
            · subst c11
              have H1 : (if t204 = true then (if t209 = true then (if t201 = t208 then (if t201 ≥ (wrap64 (a1)) then (if t201 ≤ 1099511627776 then (some (decide (t203 ≥ t201))) else (some false)) else (some false)) else (some false)) else (some false)) else (some false)) = some r := by rw [if_pos rfl] at H; exact H
              clear H
              have H := H1
              clear H1
              by_cases c12 : t204 = true
              · subst c12
                have H1 : (if t209 = true then (if t201 = t208 then (if t201 ≥ (wrap64 (a1)) then (if t201 ≤ 1099511627776 then (some (decide (t203 ≥ t201))) else (some false)) else (some false)) else (some false)) else (some false)) = some r := by rw [if_pos rfl] at H; exact H
                clear H
                have H := H1
                clear H1
                by_cases c13 : t209 = true
                · subst c13
                  have H1 : (if t201 = t208 then (if t201 ≥ (wrap64 (a1)) then (if t201 ≤ 1099511627776 then (some (decide (t203 ≥ t201))) else (some false)) else (some false)) else (some false)) = some r := by rw [if_pos rfl] at H; exact H
                  clear H
                  have H := H1
                  clear H1
                  by_cases c14 : t201 = t208
                  · rw [if_pos c14] at H
                    have c14b0 : (t201 == t208) = true := beq_iff_eq.mpr c14
                    have c14b1 : (t201 != t208) = false := bne_eq_false_iff_eq.mpr c14
                    clear c14
                    by_cases c15 : t201 ≥ (wrap64 (a1))
                    · rw [if_pos c15] at H
                      have c15b0 : decide ((wrap64 (a1)) ≤ t201) = true := decide_eq_true c15
                      clear c15
                      by_cases c16 : t201 ≤ 1099511627776
                      · rw [if_pos c16] at H
                        have c16b0 : decide (t201 ≤ 1099511627776) = true := decide_eq_true c16
                        clear c16
                        obtain rfl := Option.some.inj H
                        go_wp2_with (first | ((with_reducible refine gate_dst (N := 22) rfl ?_); refine Kd.R_lit (Kd.int .u8) _ 5 ?hg (N := 22) ?hd (xs := ([((48 + (Int.tmod x8_1 10)) % 4294967296) % 256] : List Int)) (inner := [.int .u8 (((48 + (Int.tmod x8_1 10)) % 4294967296) % 256)]) (ok := fun _ => True) (okp := fun _ => True) ?hr ?hp (fun _ hk => hk) trivial (Below.refl _ _) (Nat.le_refl _) (by simp) ?_; (case hd => rfl); (case hg => rfl); (case hr => first | (go_simp; done) | (go_simp; rfl)); (case hp => exact (Reps.one (show Kd.M (Kd.int .u8) _ _ _ (((48 + (Int.tmod x8_1 10)) % 4294967296) % 256) [.int .u8 (((48 + (Int.tmod x8_1 10)) % 4294967296) % 256)] from rfl) (Reps.none _ _))); intro v199 w17 ho18 hb hg_ hnew_; clear hg_ hnew_; (first | rw [← Ny198.out] at ho18 | (simp only [Int.reduceToNat] at ho18; rw [← Ny198.out] at ho18)); have n0_ := Aside0.mk (Kd.R_lower ho18 (below_size (by repeat (first | (with_reducible first | exact HB.out | apply below_alloc | apply pw_below_drewN | apply below_drew1) | exact HB.out)))); have n1_ := Aside0.mk (below_step (by repeat (first | (with_reducible first | exact HB.out | apply below_alloc | apply pw_below_drewN | apply below_drew1) | exact HB.out)) hb); clear HB; have HO200 := n0_; have HB := n1_; clear n0_ n1_; clear hb ho18; have hcv19 := own_string (P := Tryz.prog) Tryz.underlying33 Tryz.underlying5 Tryz.underlying9 (Kd.own_of_R HO200.out)) | ((with_reducible refine gate_callee (f := 14) rfl ?_); refine goesL_ (some 32) rfl rfl Tryz.func14 (by kernel_rfl) rfl #[.string ((strOfNums y198) ++ x7_1), .int .i64 (wrap64 (a1))] rfl (by (try simp only [List.map_toArray, List.map_cons, List.map_nil]); first | done | rfl | (simp only [List.length_drop, List.length_take]; rfl)) ?_; (with_reducible refine (feed_Retry.calls ((strOfNums y198) ++ x7_1) (wrap64 (a1)) t201 true _ ?side1 A6.out).mono ?_); (case side1 => exact HG.out.below (by repeat (first | (with_reducible first | exact HB.out | apply below_alloc | apply pw_below_drewN | apply below_drew1) | exact HB.out))); rintro e w20 ⟨rfl, hb⟩; refine ⟨_, rfl, ?_⟩; have n0_ := Aside0.mk (Kd.R_below (by (with_reducible repeat (first | apply Kd.R_alloc | apply Kd.R_drewN | apply Kd.R_drew)); exact HO200.out) hb); have n1_ := Aside0.mk (below_step (by repeat (first | (with_reducible first | exact HB.out | apply below_alloc | apply pw_below_drewN | apply below_drew1) | exact HB.out)) hb); clear HO200; clear HB; have HO200 := n0_; have HB := n1_; clear n0_ n1_; (try clear hb); (try clear hb2); (try clear hk); (try clear hi)) | ((with_reducible refine gate_callee (f := 14) rfl ?_); refine goesL_ (some 42) rfl rfl Tryz.func14 (by kernel_rfl) rfl #[.string ((strOfNums y198) ++ x7_1), .int .i64 (wrap64 ((wrap64 (a1)) + (wrap64 (a2))))] rfl (by (try simp only [List.map_toArray, List.map_cons, List.map_nil]); first | done | rfl | (simp only [List.length_drop, List.length_take]; rfl)) ?_; (with_reducible refine (feed_Retry.calls ((strOfNums y198) ++ x7_1) (wrap64 ((wrap64 (a1)) + (wrap64 (a2)))) t203 true _ ?side1 A7.out).mono ?_); (case side1 => exact HG.out.below (by repeat (first | (with_reducible first | exact HB.out | apply below_alloc | apply pw_below_drewN | apply below_drew1) | exact HB.out))); rintro e w21 ⟨rfl, hb⟩; refine ⟨_, rfl, ?_⟩; have n0_ := Aside0.mk (Kd.R_below (by (with_reducible repeat (first | apply Kd.R_alloc | apply Kd.R_drewN | apply Kd.R_drew)); exact HO200.out) hb); have n1_ := Aside0.mk (below_step (by repeat (first | (with_reducible first | exact HB.out | apply below_alloc | apply pw_below_drewN | apply below_drew1) | exact HB.out)) hb); clear HO200; clear HB; have HO200 := n0_; have HB := n1_; clear n0_ n1_; (try clear hb); (try clear hb2); (try clear hk); (try clear hi)) | ((with_reducible refine gate_dst (N := 49) rfl ?_); refine Kd.R_lit k36 _ 36 ?hg (N := 49) ?hd (xs := ([(⟨(⟨#[120, 45, 114, 97, 116, 101, 108, 105, 109, 105, 116, 45, 114, 101, 109, 97, 105, 110, 105, 110, 103]⟩ : ByteArray), (⟨#[48]⟩ : ByteArray)⟩ : S36), (⟨(⟨#[88, 45, 82, 65, 84, 69, 76, 73, 77, 73, 84, 45, 82, 69, 83, 69, 84]⟩ : ByteArray), (strOfNums y198) ++ x7_1⟩ : S36)] : List (S36))) (inner := [.string (⟨#[120, 45, 114, 97, 116, 101, 108, 105, 109, 105, 116, 45, 114, 101, 109, 97, 105, 110, 105, 110, 103]⟩ : ByteArray), .string (⟨#[48]⟩ : ByteArray), .string (⟨#[88, 45, 82, 65, 84, 69, 76, 73, 77, 73, 84, 45, 82, 69, 83, 69, 84]⟩ : ByteArray), .string ((strOfNums y198) ++ x7_1)]) (ok := fun _ => True) (okp := fun _ => True) ?hr ?hp (fun _ hk => hk) trivial (Below.refl _ _) (Nat.le_refl _) (by simp) ?_; (case hd => rfl); (case hg => rfl); (case hr => first | (go_simp; done) | (go_simp; rfl)); (case hp => exact (Reps.c2 (show Kd.M k36 _ _ _ (⟨(⟨#[120, 45, 114, 97, 116, 101, 108, 105, 109, 105, 116, 45, 114, 101, 109, 97, 105, 110, 105, 110, 103]⟩ : ByteArray), (⟨#[48]⟩ : ByteArray)⟩ : S36) [.string (⟨#[120, 45, 114, 97, 116, 101, 108, 105, 109, 105, 116, 45, 114, 101, 109, 97, 105, 110, 105, 110, 103]⟩ : ByteArray), .string (⟨#[48]⟩ : ByteArray)] from (k36_mkM _ _ _ (⟨(⟨#[120, 45, 114, 97, 116, 101, 108, 105, 109, 105, 116, 45, 114, 101, 109, 97, 105, 110, 105, 110, 103]⟩ : ByteArray), (⟨#[48]⟩ : ByteArray)⟩ : S36) )) (Reps.c2 (show Kd.M k36 _ _ _ (⟨(⟨#[88, 45, 82, 65, 84, 69, 76, 73, 77, 73, 84, 45, 82, 69, 83, 69, 84]⟩ : ByteArray), (strOfNums y198) ++ x7_1⟩ : S36) [.string (⟨#[88, 45, 82, 65, 84, 69, 76, 73, 77, 73, 84, 45, 82, 69, 83, 69, 84]⟩ : ByteArray), .string ((strOfNums y198) ++ x7_1)] from (k36_mkM _ _ _ (⟨(⟨#[88, 45, 82, 65, 84, 69, 76, 73, 77, 73, 84, 45, 82, 69, 83, 69, 84]⟩ : ByteArray), (strOfNums y198) ++ x7_1⟩ : S36) )) (Reps.none _ _)))); intro v206 w22 ho23 hb hg_ hnew_; clear hg_ hnew_; (first | rw [← Ny205.out] at ho23 | (simp only [Int.reduceToNat] at ho23; rw [← Ny205.out] at ho23)); have n0_ := Aside0.mk (Kd.R_below (by (with_reducible repeat (first | apply Kd.R_alloc | apply Kd.R_drewN | apply Kd.R_drew)); exact HO200.out) hb); have n1_ := Aside0.mk (Kd.R_lower ho23 (below_size (by repeat (first | (with_reducible first | exact HB.out | apply below_alloc | apply pw_below_drewN | apply below_drew1) | exact HB.out)))); have n2_ := Aside0.mk (below_step (by repeat (first | (with_reducible first | exact HB.out | apply below_alloc | apply pw_below_drewN | apply below_drew1) | exact HB.out)) hb); clear HO200; clear HB; have HO200 := n0_; have HO207 := n1_; have HB := n2_; clear n0_ n1_ n2_; clear hb ho23; obtain ⟨Ao24, co24, eo24⟩ := Kd.R_slice HO207.out; subst eo24) | ((with_reducible refine gate_callee (f := 10) rfl ?_); refine goesL_ (some 52) rfl rfl Tryz.func10 (by kernel_rfl) rfl #[.slice Ao24 y205.length co24, .int .i64 (wrap64 (a1))] rfl (by (try simp only [List.map_toArray, List.map_cons, List.map_nil]); first | done | rfl | (simp only [List.length_drop, List.length_take]; rfl)) ?_; (with_reducible refine (feed_Reset.calls k1 _ _ y205 (wrap64 (a1)) t208 true _ ?side3 ?side1 ?side2 A8.out).mono ?_); (case side1 => repeat (first | exact (Kd.R_reads' HO207.out).2.2 | (with_reducible refine Kd.C_alloc ?_ _) | (with_reducible refine Kd.C_drewN ?_ _) | (with_reducible refine Kd.C_drew ?_))); (case side2 => exact (Kd.R_reads' HO207.out).2.1); (case side3 => exact HG.out.below (by repeat (first | (with_reducible first | exact HB.out | apply below_alloc | apply pw_below_drewN | apply below_drew1) | exact HB.out))); rintro e w25 ⟨rfl, hb⟩; refine ⟨_, rfl, ?_⟩; have n0_ := Aside0.mk (Kd.R_below (by (with_reducible repeat (first | apply Kd.R_alloc | apply Kd.R_drewN | apply Kd.R_drew)); exact HO200.out) hb); have n1_ := Aside0.mk (Kd.R_below (by (with_reducible repeat (first | apply Kd.R_alloc | apply Kd.R_drewN | apply Kd.R_drew)); exact HO207.out) hb); have n2_ := Aside0.mk (below_step (by repeat (first | (with_reducible first | exact HB.out | apply below_alloc | apply pw_below_drewN | apply below_drew1) | exact HB.out)) hb); clear HO200; clear HO207; clear HB; have HO200 := n0_; have HO207 := n1_; have HB := n2_; clear n0_ n1_ n2_; (try clear hb); (try clear hb2); (try clear hk); (try clear hi)) | ((with_reducible refine gate_callee (f := 9) rfl ?_); refine goesL_ (some 55) rfl rfl Tryz.func9 (by kernel_rfl) rfl #[] rfl (by (try simp only [List.map_toArray, List.map_cons, List.map_nil]); first | done | rfl | (simp only [List.length_drop, List.length_take]; rfl)) ?_; (with_reducible refine (decorumlaw08_awake.calls k1  true _ ?side1 A9.out).mono ?_); (case side1 => exact HG.out.below (by repeat (first | (with_reducible first | exact HB.out | apply below_alloc | apply pw_below_drewN | apply below_drew1) | exact HB.out))); rintro e w26 ⟨rfl, hb⟩; refine ⟨_, rfl, ?_⟩; have n0_ := Aside0.mk (Kd.R_below (by (with_reducible repeat (first | apply Kd.R_alloc | apply Kd.R_drewN | apply Kd.R_drew)); exact HO200.out) hb); have n1_ := Aside0.mk (Kd.R_below (by (with_reducible repeat (first | apply Kd.R_alloc | apply Kd.R_drewN | apply Kd.R_drew)); exact HO207.out) hb); have n2_ := Aside0.mk (below_step (by repeat (first | (with_reducible first | exact HB.out | apply below_alloc | apply pw_below_drewN | apply below_drew1) | exact HB.out)) hb); clear HO200; clear HO207; clear HB; have HO200 := n0_; have HO207 := n1_; have HB := n2_; clear n0_ n1_ n2_; (try clear hb); (try clear hb2); (try clear hk); (try clear hi)))
                        go_ret
                        exact ⟨by first | rfl | (simp [errW_none, errW_some] <;> rfl) | (simp [*, errW_none, errW_some] <;> rfl), by repeat (first | (with_reducible first | exact HB.out | apply below_alloc | apply pw_below_drewN | apply below_drew1) | exact HB.out)⟩
                      · rw [if_neg c16] at H
                        have c16b0 : decide (t201 ≤ 1099511627776) = false := decide_eq_false c16
                        clear c16
                        obtain rfl := Option.some.inj H
                        go_wp2_with (first | ((with_reducible refine gate_dst (N := 22) rfl ?_); refine Kd.R_lit (Kd.int .u8) _ 5 ?hg (N := 22) ?hd (xs := ([((48 + (Int.tmod x8_1 10)) % 4294967296) % 256] : List Int)) (inner := [.int .u8 (((48 + (Int.tmod x8_1 10)) % 4294967296) % 256)]) (ok := fun _ => True) (okp := fun _ => True) ?hr ?hp (fun _ hk => hk) trivial (Below.refl _ _) (Nat.le_refl _) (by simp) ?_; (case hd => rfl); (case hg => rfl); (case hr => first | (go_simp; done) | (go_simp; rfl)); (case hp => exact (Reps.one (show Kd.M (Kd.int .u8) _ _ _ (((48 + (Int.tmod x8_1 10)) % 4294967296) % 256) [.int .u8 (((48 + (Int.tmod x8_1 10)) % 4294967296) % 256)] from rfl) (Reps.none _ _))); intro v199 w27 ho28 hb hg_ hnew_; clear hg_ hnew_; (first | rw [← Ny198.out] at ho28 | (simp only [Int.reduceToNat] at ho28; rw [← Ny198.out] at ho28)); have n0_ := Aside0.mk (Kd.R_lower ho28 (below_size (by repeat (first | (with_reducible first | exact HB.out | apply below_alloc | apply pw_below_drewN | apply below_drew1) | exact HB.out)))); have n1_ := Aside0.mk (below_step (by repeat (first | (with_reducible first | exact HB.out | apply below_alloc | apply pw_below_drewN | apply below_drew1) | exact HB.out)) hb); clear HB; have HO200 := n0_; have HB := n1_; clear n0_ n1_; clear hb ho28; have hcv29 := own_string (P := Tryz.prog) Tryz.underlying33 Tryz.underlying5 Tryz.underlying9 (Kd.own_of_R HO200.out)) | ((with_reducible refine gate_callee (f := 14) rfl ?_); refine goesL_ (some 32) rfl rfl Tryz.func14 (by kernel_rfl) rfl #[.string ((strOfNums y198) ++ x7_1), .int .i64 (wrap64 (a1))] rfl (by (try simp only [List.map_toArray, List.map_cons, List.map_nil]); first | done | rfl | (simp only [List.length_drop, List.length_take]; rfl)) ?_; (with_reducible refine (feed_Retry.calls ((strOfNums y198) ++ x7_1) (wrap64 (a1)) t201 true _ ?side1 A6.out).mono ?_); (case side1 => exact HG.out.below (by repeat (first | (with_reducible first | exact HB.out | apply below_alloc | apply pw_below_drewN | apply below_drew1) | exact HB.out))); rintro e w30 ⟨rfl, hb⟩; refine ⟨_, rfl, ?_⟩; have n0_ := Aside0.mk (Kd.R_below (by (with_reducible repeat (first | apply Kd.R_alloc | apply Kd.R_drewN | apply Kd.R_drew)); exact HO200.out) hb); have n1_ := Aside0.mk (below_step (by repeat (first | (with_reducible first | exact HB.out | apply below_alloc | apply pw_below_drewN | apply below_drew1) | exact HB.out)) hb); clear HO200; clear HB; have HO200 := n0_; have HB := n1_; clear n0_ n1_; (try clear hb); (try clear hb2); (try clear hk); (try clear hi)) | ((with_reducible refine gate_callee (f := 14) rfl ?_); refine goesL_ (some 42) rfl rfl Tryz.func14 (by kernel_rfl) rfl #[.string ((strOfNums y198) ++ x7_1), .int .i64 (wrap64 ((wrap64 (a1)) + (wrap64 (a2))))] rfl (by (try simp only [List.map_toArray, List.map_cons, List.map_nil]); first | done | rfl | (simp only [List.length_drop, List.length_take]; rfl)) ?_; (with_reducible refine (feed_Retry.calls ((strOfNums y198) ++ x7_1) (wrap64 ((wrap64 (a1)) + (wrap64 (a2)))) t203 true _ ?side1 A7.out).mono ?_); (case side1 => exact HG.out.below (by repeat (first | (with_reducible first | exact HB.out | apply below_alloc | apply pw_below_drewN | apply below_drew1) | exact HB.out))); rintro e w31 ⟨rfl, hb⟩; refine ⟨_, rfl, ?_⟩; have n0_ := Aside0.mk (Kd.R_below (by (with_reducible repeat (first | apply Kd.R_alloc | apply Kd.R_drewN | apply Kd.R_drew)); exact HO200.out) hb); have n1_ := Aside0.mk (below_step (by repeat (first | (with_reducible first | exact HB.out | apply below_alloc | apply pw_below_drewN | apply below_drew1) | exact HB.out)) hb); clear HO200; clear HB; have HO200 := n0_; have HB := n1_; clear n0_ n1_; (try clear hb); (try clear hb2); (try clear hk); (try clear hi)) | ((with_reducible refine gate_dst (N := 49) rfl ?_); refine Kd.R_lit k36 _ 36 ?hg (N := 49) ?hd (xs := ([(⟨(⟨#[120, 45, 114, 97, 116, 101, 108, 105, 109, 105, 116, 45, 114, 101, 109, 97, 105, 110, 105, 110, 103]⟩ : ByteArray), (⟨#[48]⟩ : ByteArray)⟩ : S36), (⟨(⟨#[88, 45, 82, 65, 84, 69, 76, 73, 77, 73, 84, 45, 82, 69, 83, 69, 84]⟩ : ByteArray), (strOfNums y198) ++ x7_1⟩ : S36)] : List (S36))) (inner := [.string (⟨#[120, 45, 114, 97, 116, 101, 108, 105, 109, 105, 116, 45, 114, 101, 109, 97, 105, 110, 105, 110, 103]⟩ : ByteArray), .string (⟨#[48]⟩ : ByteArray), .string (⟨#[88, 45, 82, 65, 84, 69, 76, 73, 77, 73, 84, 45, 82, 69, 83, 69, 84]⟩ : ByteArray), .string ((strOfNums y198) ++ x7_1)]) (ok := fun _ => True) (okp := fun _ => True) ?hr ?hp (fun _ hk => hk) trivial (Below.refl _ _) (Nat.le_refl _) (by simp) ?_; (case hd => rfl); (case hg => rfl); (case hr => first | (go_simp; done) | (go_simp; rfl)); (case hp => exact (Reps.c2 (show Kd.M k36 _ _ _ (⟨(⟨#[120, 45, 114, 97, 116, 101, 108, 105, 109, 105, 116, 45, 114, 101, 109, 97, 105, 110, 105, 110, 103]⟩ : ByteArray), (⟨#[48]⟩ : ByteArray)⟩ : S36) [.string (⟨#[120, 45, 114, 97, 116, 101, 108, 105, 109, 105, 116, 45, 114, 101, 109, 97, 105, 110, 105, 110, 103]⟩ : ByteArray), .string (⟨#[48]⟩ : ByteArray)] from (k36_mkM _ _ _ (⟨(⟨#[120, 45, 114, 97, 116, 101, 108, 105, 109, 105, 116, 45, 114, 101, 109, 97, 105, 110, 105, 110, 103]⟩ : ByteArray), (⟨#[48]⟩ : ByteArray)⟩ : S36) )) (Reps.c2 (show Kd.M k36 _ _ _ (⟨(⟨#[88, 45, 82, 65, 84, 69, 76, 73, 77, 73, 84, 45, 82, 69, 83, 69, 84]⟩ : ByteArray), (strOfNums y198) ++ x7_1⟩ : S36) [.string (⟨#[88, 45, 82, 65, 84, 69, 76, 73, 77, 73, 84, 45, 82, 69, 83, 69, 84]⟩ : ByteArray), .string ((strOfNums y198) ++ x7_1)] from (k36_mkM _ _ _ (⟨(⟨#[88, 45, 82, 65, 84, 69, 76, 73, 77, 73, 84, 45, 82, 69, 83, 69, 84]⟩ : ByteArray), (strOfNums y198) ++ x7_1⟩ : S36) )) (Reps.none _ _)))); intro v206 w32 ho33 hb hg_ hnew_; clear hg_ hnew_; (first | rw [← Ny205.out] at ho33 | (simp only [Int.reduceToNat] at ho33; rw [← Ny205.out] at ho33)); have n0_ := Aside0.mk (Kd.R_below (by (with_reducible repeat (first | apply Kd.R_alloc | apply Kd.R_drewN | apply Kd.R_drew)); exact HO200.out) hb); have n1_ := Aside0.mk (Kd.R_lower ho33 (below_size (by repeat (first | (with_reducible first | exact HB.out | apply below_alloc | apply pw_below_drewN | apply below_drew1) | exact HB.out)))); have n2_ := Aside0.mk (below_step (by repeat (first | (with_reducible first | exact HB.out | apply below_alloc | apply pw_below_drewN | apply below_drew1) | exact HB.out)) hb); clear HO200; clear HB; have HO200 := n0_; have HO207 := n1_; have HB := n2_; clear n0_ n1_ n2_; clear hb ho33; obtain ⟨Ao34, co34, eo34⟩ := Kd.R_slice HO207.out; subst eo34) | ((with_reducible refine gate_callee (f := 10) rfl ?_); refine goesL_ (some 52) rfl rfl Tryz.func10 (by kernel_rfl) rfl #[.slice Ao34 y205.length co34, .int .i64 (wrap64 (a1))] rfl (by (try simp only [List.map_toArray, List.map_cons, List.map_nil]); first | done | rfl | (simp only [List.length_drop, List.length_take]; rfl)) ?_; (with_reducible refine (feed_Reset.calls k1 _ _ y205 (wrap64 (a1)) t208 true _ ?side3 ?side1 ?side2 A8.out).mono ?_); (case side1 => repeat (first | exact (Kd.R_reads' HO207.out).2.2 | (with_reducible refine Kd.C_alloc ?_ _) | (with_reducible refine Kd.C_drewN ?_ _) | (with_reducible refine Kd.C_drew ?_))); (case side2 => exact (Kd.R_reads' HO207.out).2.1); (case side3 => exact HG.out.below (by repeat (first | (with_reducible first | exact HB.out | apply below_alloc | apply pw_below_drewN | apply below_drew1) | exact HB.out))); rintro e w35 ⟨rfl, hb⟩; refine ⟨_, rfl, ?_⟩; have n0_ := Aside0.mk (Kd.R_below (by (with_reducible repeat (first | apply Kd.R_alloc | apply Kd.R_drewN | apply Kd.R_drew)); exact HO200.out) hb); have n1_ := Aside0.mk (Kd.R_below (by (with_reducible repeat (first | apply Kd.R_alloc | apply Kd.R_drewN | apply Kd.R_drew)); exact HO207.out) hb); have n2_ := Aside0.mk (below_step (by repeat (first | (with_reducible first | exact HB.out | apply below_alloc | apply pw_below_drewN | apply below_drew1) | exact HB.out)) hb); clear HO200; clear HO207; clear HB; have HO200 := n0_; have HO207 := n1_; have HB := n2_; clear n0_ n1_ n2_; (try clear hb); (try clear hb2); (try clear hk); (try clear hi)) | ((with_reducible refine gate_callee (f := 9) rfl ?_); refine goesL_ (some 55) rfl rfl Tryz.func9 (by kernel_rfl) rfl #[] rfl (by (try simp only [List.map_toArray, List.map_cons, List.map_nil]); first | done | rfl | (simp only [List.length_drop, List.length_take]; rfl)) ?_; (with_reducible refine (decorumlaw08_awake.calls k1  true _ ?side1 A9.out).mono ?_); (case side1 => exact HG.out.below (by repeat (first | (with_reducible first | exact HB.out | apply below_alloc | apply pw_below_drewN | apply below_drew1) | exact HB.out))); rintro e w36 ⟨rfl, hb⟩; refine ⟨_, rfl, ?_⟩; have n0_ := Aside0.mk (Kd.R_below (by (with_reducible repeat (first | apply Kd.R_alloc | apply Kd.R_drewN | apply Kd.R_drew)); exact HO200.out) hb); have n1_ := Aside0.mk (Kd.R_below (by (with_reducible repeat (first | apply Kd.R_alloc | apply Kd.R_drewN | apply Kd.R_drew)); exact HO207.out) hb); have n2_ := Aside0.mk (below_step (by repeat (first | (with_reducible first | exact HB.out | apply below_alloc | apply pw_below_drewN | apply below_drew1) | exact HB.out)) hb); clear HO200; clear HO207; clear HB; have HO200 := n0_; have HO207 := n1_; have HB := n2_; clear n0_ n1_ n2_; (try clear hb); (try clear hb2); (try clear hk); (try clear hi)))
                        go_ret
                        exact ⟨by first | rfl | (simp [errW_none, errW_some] <;> rfl) | (simp [*, errW_none, errW_some] <;> rfl), by repeat (first | (with_reducible first | exact HB.out | apply below_alloc | apply pw_below_drewN | apply below_drew1) | exact HB.out)⟩
                    · rw [if_neg c15] at H
                      have c15b0 : decide ((wrap64 (a1)) ≤ t201) = false := decide_eq_false c15
                      clear c15
                      obtain rfl := Option.some.inj H
                      go_wp2_with (first | ((with_reducible refine gate_dst (N := 22) rfl ?_); refine Kd.R_lit (Kd.int .u8) _ 5 ?hg (N := 22) ?hd (xs := ([((48 + (Int.tmod x8_1 10)) % 4294967296) % 256] : List Int)) (inner := [.int .u8 (((48 + (Int.tmod x8_1 10)) % 4294967296) % 256)]) (ok := fun _ => True) (okp := fun _ => True) ?hr ?hp (fun _ hk => hk) trivial (Below.refl _ _) (Nat.le_refl _) (by simp) ?_; (case hd => rfl); (case hg => rfl); (case hr => first | (go_simp; done) | (go_simp; rfl)); (case hp => exact (Reps.one (show Kd.M (Kd.int .u8) _ _ _ (((48 + (Int.tmod x8_1 10)) % 4294967296) % 256) [.int .u8 (((48 + (Int.tmod x8_1 10)) % 4294967296) % 256)] from rfl) (Reps.none _ _))); intro v199 w37 ho38 hb hg_ hnew_; clear hg_ hnew_; (first | rw [← Ny198.out] at ho38 | (simp only [Int.reduceToNat] at ho38; rw [← Ny198.out] at ho38)); have n0_ := Aside0.mk (Kd.R_lower ho38 (below_size (by repeat (first | (with_reducible first | exact HB.out | apply below_alloc | apply pw_below_drewN | apply below_drew1) | exact HB.out)))); have n1_ := Aside0.mk (below_step (by repeat (first | (with_reducible first | exact HB.out | apply below_alloc | apply pw_below_drewN | apply below_drew1) | exact HB.out)) hb); clear HB; have HO200 := n0_; have HB := n1_; clear n0_ n1_; clear hb ho38; have hcv39 := own_string (P := Tryz.prog) Tryz.underlying33 Tryz.underlying5 Tryz.underlying9 (Kd.own_of_R HO200.out)) | ((with_reducible refine gate_callee (f := 14) rfl ?_); refine goesL_ (some 32) rfl rfl Tryz.func14 (by kernel_rfl) rfl #[.string ((strOfNums y198) ++ x7_1), .int .i64 (wrap64 (a1))] rfl (by (try simp only [List.map_toArray, List.map_cons, List.map_nil]); first | done | rfl | (simp only [List.length_drop, List.length_take]; rfl)) ?_; (with_reducible refine (feed_Retry.calls ((strOfNums y198) ++ x7_1) (wrap64 (a1)) t201 true _ ?side1 A6.out).mono ?_); (case side1 => exact HG.out.below (by repeat (first | (with_reducible first | exact HB.out | apply below_alloc | apply pw_below_drewN | apply below_drew1) | exact HB.out))); rintro e w40 ⟨rfl, hb⟩; refine ⟨_, rfl, ?_⟩; have n0_ := Aside0.mk (Kd.R_below (by (with_reducible repeat (first | apply Kd.R_alloc | apply Kd.R_drewN | apply Kd.R_drew)); exact HO200.out) hb); have n1_ := Aside0.mk (below_step (by repeat (first | (with_reducible first | exact HB.out | apply below_alloc | apply pw_below_drewN | apply below_drew1) | exact HB.out)) hb); clear HO200; clear HB; have HO200 := n0_; have HB := n1_; clear n0_ n1_; (try clear hb); (try clear hb2); (try clear hk); (try clear hi)) | ((with_reducible refine gate_callee (f := 14) rfl ?_); refine goesL_ (some 42) rfl rfl Tryz.func14 (by kernel_rfl) rfl #[.string ((strOfNums y198) ++ x7_1), .int .i64 (wrap64 ((wrap64 (a1)) + (wrap64 (a2))))] rfl (by (try simp only [List.map_toArray, List.map_cons, List.map_nil]); first | done | rfl | (simp only [List.length_drop, List.length_take]; rfl)) ?_; (with_reducible refine (feed_Retry.calls ((strOfNums y198) ++ x7_1) (wrap64 ((wrap64 (a1)) + (wrap64 (a2)))) t203 true _ ?side1 A7.out).mono ?_); (case side1 => exact HG.out.below (by repeat (first | (with_reducible first | exact HB.out | apply below_alloc | apply pw_below_drewN | apply below_drew1) | exact HB.out))); rintro e w41 ⟨rfl, hb⟩; refine ⟨_, rfl, ?_⟩; have n0_ := Aside0.mk (Kd.R_below (by (with_reducible repeat (first | apply Kd.R_alloc | apply Kd.R_drewN | apply Kd.R_drew)); exact HO200.out) hb); have n1_ := Aside0.mk (below_step (by repeat (first | (with_reducible first | exact HB.out | apply below_alloc | apply pw_below_drewN | apply below_drew1) | exact HB.out)) hb); clear HO200; clear HB; have HO200 := n0_; have HB := n1_; clear n0_ n1_; (try clear hb); (try clear hb2); (try clear hk); (try clear hi)) | ((with_reducible refine gate_dst (N := 49) rfl ?_); refine Kd.R_lit k36 _ 36 ?hg (N := 49) ?hd (xs := ([(⟨(⟨#[120, 45, 114, 97, 116, 101, 108, 105, 109, 105, 116, 45, 114, 101, 109, 97, 105, 110, 105, 110, 103]⟩ : ByteArray), (⟨#[48]⟩ : ByteArray)⟩ : S36), (⟨(⟨#[88, 45, 82, 65, 84, 69, 76, 73, 77, 73, 84, 45, 82, 69, 83, 69, 84]⟩ : ByteArray), (strOfNums y198) ++ x7_1⟩ : S36)] : List (S36))) (inner := [.string (⟨#[120, 45, 114, 97, 116, 101, 108, 105, 109, 105, 116, 45, 114, 101, 109, 97, 105, 110, 105, 110, 103]⟩ : ByteArray), .string (⟨#[48]⟩ : ByteArray), .string (⟨#[88, 45, 82, 65, 84, 69, 76, 73, 77, 73, 84, 45, 82, 69, 83, 69, 84]⟩ : ByteArray), .string ((strOfNums y198) ++ x7_1)]) (ok := fun _ => True) (okp := fun _ => True) ?hr ?hp (fun _ hk => hk) trivial (Below.refl _ _) (Nat.le_refl _) (by simp) ?_; (case hd => rfl); (case hg => rfl); (case hr => first | (go_simp; done) | (go_simp; rfl)); (case hp => exact (Reps.c2 (show Kd.M k36 _ _ _ (⟨(⟨#[120, 45, 114, 97, 116, 101, 108, 105, 109, 105, 116, 45, 114, 101, 109, 97, 105, 110, 105, 110, 103]⟩ : ByteArray), (⟨#[48]⟩ : ByteArray)⟩ : S36) [.string (⟨#[120, 45, 114, 97, 116, 101, 108, 105, 109, 105, 116, 45, 114, 101, 109, 97, 105, 110, 105, 110, 103]⟩ : ByteArray), .string (⟨#[48]⟩ : ByteArray)] from (k36_mkM _ _ _ (⟨(⟨#[120, 45, 114, 97, 116, 101, 108, 105, 109, 105, 116, 45, 114, 101, 109, 97, 105, 110, 105, 110, 103]⟩ : ByteArray), (⟨#[48]⟩ : ByteArray)⟩ : S36) )) (Reps.c2 (show Kd.M k36 _ _ _ (⟨(⟨#[88, 45, 82, 65, 84, 69, 76, 73, 77, 73, 84, 45, 82, 69, 83, 69, 84]⟩ : ByteArray), (strOfNums y198) ++ x7_1⟩ : S36) [.string (⟨#[88, 45, 82, 65, 84, 69, 76, 73, 77, 73, 84, 45, 82, 69, 83, 69, 84]⟩ : ByteArray), .string ((strOfNums y198) ++ x7_1)] from (k36_mkM _ _ _ (⟨(⟨#[88, 45, 82, 65, 84, 69, 76, 73, 77, 73, 84, 45, 82, 69, 83, 69, 84]⟩ : ByteArray), (strOfNums y198) ++ x7_1⟩ : S36) )) (Reps.none _ _)))); intro v206 w42 ho43 hb hg_ hnew_; clear hg_ hnew_; (first | rw [← Ny205.out] at ho43 | (simp only [Int.reduceToNat] at ho43; rw [← Ny205.out] at ho43)); have n0_ := Aside0.mk (Kd.R_below (by (with_reducible repeat (first | apply Kd.R_alloc | apply Kd.R_drewN | apply Kd.R_drew)); exact HO200.out) hb); have n1_ := Aside0.mk (Kd.R_lower ho43 (below_size (by repeat (first | (with_reducible first | exact HB.out | apply below_alloc | apply pw_below_drewN | apply below_drew1) | exact HB.out)))); have n2_ := Aside0.mk (below_step (by repeat (first | (with_reducible first | exact HB.out | apply below_alloc | apply pw_below_drewN | apply below_drew1) | exact HB.out)) hb); clear HO200; clear HB; have HO200 := n0_; have HO207 := n1_; have HB := n2_; clear n0_ n1_ n2_; clear hb ho43; obtain ⟨Ao44, co44, eo44⟩ := Kd.R_slice HO207.out; subst eo44) | ((with_reducible refine gate_callee (f := 10) rfl ?_); refine goesL_ (some 52) rfl rfl Tryz.func10 (by kernel_rfl) rfl #[.slice Ao44 y205.length co44, .int .i64 (wrap64 (a1))] rfl (by (try simp only [List.map_toArray, List.map_cons, List.map_nil]); first | done | rfl | (simp only [List.length_drop, List.length_take]; rfl)) ?_; (with_reducible refine (feed_Reset.calls k1 _ _ y205 (wrap64 (a1)) t208 true _ ?side3 ?side1 ?side2 A8.out).mono ?_); (case side1 => repeat (first | exact (Kd.R_reads' HO207.out).2.2 | (with_reducible refine Kd.C_alloc ?_ _) | (with_reducible refine Kd.C_drewN ?_ _) | (with_reducible refine Kd.C_drew ?_))); (case side2 => exact (Kd.R_reads' HO207.out).2.1); (case side3 => exact HG.out.below (by repeat (first | (with_reducible first | exact HB.out | apply below_alloc | apply pw_below_drewN | apply below_drew1) | exact HB.out))); rintro e w45 ⟨rfl, hb⟩; refine ⟨_, rfl, ?_⟩; have n0_ := Aside0.mk (Kd.R_below (by (with_reducible repeat (first | apply Kd.R_alloc | apply Kd.R_drewN | apply Kd.R_drew)); exact HO200.out) hb); have n1_ := Aside0.mk (Kd.R_below (by (with_reducible repeat (first | apply Kd.R_alloc | apply Kd.R_drewN | apply Kd.R_drew)); exact HO207.out) hb); have n2_ := Aside0.mk (below_step (by repeat (first | (with_reducible first | exact HB.out | apply below_alloc | apply pw_below_drewN | apply below_drew1) | exact HB.out)) hb); clear HO200; clear HO207; clear HB; have HO200 := n0_; have HO207 := n1_; have HB := n2_; clear n0_ n1_ n2_; (try clear hb); (try clear hb2); (try clear hk); (try clear hi)) | ((with_reducible refine gate_callee (f := 9) rfl ?_); refine goesL_ (some 55) rfl rfl Tryz.func9 (by kernel_rfl) rfl #[] rfl (by (try simp only [List.map_toArray, List.map_cons, List.map_nil]); first | done | rfl | (simp only [List.length_drop, List.length_take]; rfl)) ?_; (with_reducible refine (decorumlaw08_awake.calls k1  true _ ?side1 A9.out).mono ?_); (case side1 => exact HG.out.below (by repeat (first | (with_reducible first | exact HB.out | apply below_alloc | apply pw_below_drewN | apply below_drew1) | exact HB.out))); rintro e w46 ⟨rfl, hb⟩; refine ⟨_, rfl, ?_⟩; have n0_ := Aside0.mk (Kd.R_below (by (with_reducible repeat (first | apply Kd.R_alloc | apply Kd.R_drewN | apply Kd.R_drew)); exact HO200.out) hb); have n1_ := Aside0.mk (Kd.R_below (by (with_reducible repeat (first | apply Kd.R_alloc | apply Kd.R_drewN | apply Kd.R_drew)); exact HO207.out) hb); have n2_ := Aside0.mk (below_step (by repeat (first | (with_reducible first | exact HB.out | apply below_alloc | apply pw_below_drewN | apply below_drew1) | exact HB.out)) hb); clear HO200; clear HO207; clear HB; have HO200 := n0_; have HO207 := n1_; have HB := n2_; clear n0_ n1_ n2_; (try clear hb); (try clear hb2); (try clear hk); (try clear hi)))
                      go_ret
                      exact ⟨by first | rfl | (simp [errW_none, errW_some] <;> rfl) | (simp [*, errW_none, errW_some] <;> rfl), by repeat (first | (with_reducible first | exact HB.out | apply below_alloc | apply pw_below_drewN | apply below_drew1) | exact HB.out)⟩
                  · rw [if_neg c14] at H
                    have c14b0 : (t201 == t208) = false := beq_eq_false_iff_ne.mpr c14
                    have c14b1 : (t201 != t208) = true := bne_iff_ne.mpr c14
                    obtain rfl := Option.some.inj H
                    go_wp2_with (first | ((with_reducible refine gate_dst (N := 22) rfl ?_); refine Kd.R_lit (Kd.int .u8) _ 5 ?hg (N := 22) ?hd (xs := ([((48 + (Int.tmod x8_1 10)) % 4294967296) % 256] : List Int)) (inner := [.int .u8 (((48 + (Int.tmod x8_1 10)) % 4294967296) % 256)]) (ok := fun _ => True) (okp := fun _ => True) ?hr ?hp (fun _ hk => hk) trivial (Below.refl _ _) (Nat.le_refl _) (by simp) ?_; (case hd => rfl); (case hg => rfl); (case hr => first | (go_simp; done) | (go_simp; rfl)); (case hp => exact (Reps.one (show Kd.M (Kd.int .u8) _ _ _ (((48 + (Int.tmod x8_1 10)) % 4294967296) % 256) [.int .u8 (((48 + (Int.tmod x8_1 10)) % 4294967296) % 256)] from rfl) (Reps.none _ _))); intro v199 w47 ho48 hb hg_ hnew_; clear hg_ hnew_; (first | rw [← Ny198.out] at ho48 | (simp only [Int.reduceToNat] at ho48; rw [← Ny198.out] at ho48)); have n0_ := Aside0.mk (Kd.R_lower ho48 (below_size (by repeat (first | (with_reducible first | exact HB.out | apply below_alloc | apply pw_below_drewN | apply below_drew1) | exact HB.out)))); have n1_ := Aside0.mk (below_step (by repeat (first | (with_reducible first | exact HB.out | apply below_alloc | apply pw_below_drewN | apply below_drew1) | exact HB.out)) hb); clear HB; have HO200 := n0_; have HB := n1_; clear n0_ n1_; clear hb ho48; have hcv49 := own_string (P := Tryz.prog) Tryz.underlying33 Tryz.underlying5 Tryz.underlying9 (Kd.own_of_R HO200.out)) | ((with_reducible refine gate_callee (f := 14) rfl ?_); refine goesL_ (some 32) rfl rfl Tryz.func14 (by kernel_rfl) rfl #[.string ((strOfNums y198) ++ x7_1), .int .i64 (wrap64 (a1))] rfl (by (try simp only [List.map_toArray, List.map_cons, List.map_nil]); first | done | rfl | (simp only [List.length_drop, List.length_take]; rfl)) ?_; (with_reducible refine (feed_Retry.calls ((strOfNums y198) ++ x7_1) (wrap64 (a1)) t201 true _ ?side1 A6.out).mono ?_); (case side1 => exact HG.out.below (by repeat (first | (with_reducible first | exact HB.out | apply below_alloc | apply pw_below_drewN | apply below_drew1) | exact HB.out))); rintro e w50 ⟨rfl, hb⟩; refine ⟨_, rfl, ?_⟩; have n0_ := Aside0.mk (Kd.R_below (by (with_reducible repeat (first | apply Kd.R_alloc | apply Kd.R_drewN | apply Kd.R_drew)); exact HO200.out) hb); have n1_ := Aside0.mk (below_step (by repeat (first | (with_reducible first | exact HB.out | apply below_alloc | apply pw_below_drewN | apply below_drew1) | exact HB.out)) hb); clear HO200; clear HB; have HO200 := n0_; have HB := n1_; clear n0_ n1_; (try clear hb); (try clear hb2); (try clear hk); (try clear hi)) | ((with_reducible refine gate_callee (f := 14) rfl ?_); refine goesL_ (some 42) rfl rfl Tryz.func14 (by kernel_rfl) rfl #[.string ((strOfNums y198) ++ x7_1), .int .i64 (wrap64 ((wrap64 (a1)) + (wrap64 (a2))))] rfl (by (try simp only [List.map_toArray, List.map_cons, List.map_nil]); first | done | rfl | (simp only [List.length_drop, List.length_take]; rfl)) ?_; (with_reducible refine (feed_Retry.calls ((strOfNums y198) ++ x7_1) (wrap64 ((wrap64 (a1)) + (wrap64 (a2)))) t203 true _ ?side1 A7.out).mono ?_); (case side1 => exact HG.out.below (by repeat (first | (with_reducible first | exact HB.out | apply below_alloc | apply pw_below_drewN | apply below_drew1) | exact HB.out))); rintro e w51 ⟨rfl, hb⟩; refine ⟨_, rfl, ?_⟩; have n0_ := Aside0.mk (Kd.R_below (by (with_reducible repeat (first | apply Kd.R_alloc | apply Kd.R_drewN | apply Kd.R_drew)); exact HO200.out) hb); have n1_ := Aside0.mk (below_step (by repeat (first | (with_reducible first | exact HB.out | apply below_alloc | apply pw_below_drewN | apply below_drew1) | exact HB.out)) hb); clear HO200; clear HB; have HO200 := n0_; have HB := n1_; clear n0_ n1_; (try clear hb); (try clear hb2); (try clear hk); (try clear hi)) | ((with_reducible refine gate_dst (N := 49) rfl ?_); refine Kd.R_lit k36 _ 36 ?hg (N := 49) ?hd (xs := ([(⟨(⟨#[120, 45, 114, 97, 116, 101, 108, 105, 109, 105, 116, 45, 114, 101, 109, 97, 105, 110, 105, 110, 103]⟩ : ByteArray), (⟨#[48]⟩ : ByteArray)⟩ : S36), (⟨(⟨#[88, 45, 82, 65, 84, 69, 76, 73, 77, 73, 84, 45, 82, 69, 83, 69, 84]⟩ : ByteArray), (strOfNums y198) ++ x7_1⟩ : S36)] : List (S36))) (inner := [.string (⟨#[120, 45, 114, 97, 116, 101, 108, 105, 109, 105, 116, 45, 114, 101, 109, 97, 105, 110, 105, 110, 103]⟩ : ByteArray), .string (⟨#[48]⟩ : ByteArray), .string (⟨#[88, 45, 82, 65, 84, 69, 76, 73, 77, 73, 84, 45, 82, 69, 83, 69, 84]⟩ : ByteArray), .string ((strOfNums y198) ++ x7_1)]) (ok := fun _ => True) (okp := fun _ => True) ?hr ?hp (fun _ hk => hk) trivial (Below.refl _ _) (Nat.le_refl _) (by simp) ?_; (case hd => rfl); (case hg => rfl); (case hr => first | (go_simp; done) | (go_simp; rfl)); (case hp => exact (Reps.c2 (show Kd.M k36 _ _ _ (⟨(⟨#[120, 45, 114, 97, 116, 101, 108, 105, 109, 105, 116, 45, 114, 101, 109, 97, 105, 110, 105, 110, 103]⟩ : ByteArray), (⟨#[48]⟩ : ByteArray)⟩ : S36) [.string (⟨#[120, 45, 114, 97, 116, 101, 108, 105, 109, 105, 116, 45, 114, 101, 109, 97, 105, 110, 105, 110, 103]⟩ : ByteArray), .string (⟨#[48]⟩ : ByteArray)] from (k36_mkM _ _ _ (⟨(⟨#[120, 45, 114, 97, 116, 101, 108, 105, 109, 105, 116, 45, 114, 101, 109, 97, 105, 110, 105, 110, 103]⟩ : ByteArray), (⟨#[48]⟩ : ByteArray)⟩ : S36) )) (Reps.c2 (show Kd.M k36 _ _ _ (⟨(⟨#[88, 45, 82, 65, 84, 69, 76, 73, 77, 73, 84, 45, 82, 69, 83, 69, 84]⟩ : ByteArray), (strOfNums y198) ++ x7_1⟩ : S36) [.string (⟨#[88, 45, 82, 65, 84, 69, 76, 73, 77, 73, 84, 45, 82, 69, 83, 69, 84]⟩ : ByteArray), .string ((strOfNums y198) ++ x7_1)] from (k36_mkM _ _ _ (⟨(⟨#[88, 45, 82, 65, 84, 69, 76, 73, 77, 73, 84, 45, 82, 69, 83, 69, 84]⟩ : ByteArray), (strOfNums y198) ++ x7_1⟩ : S36) )) (Reps.none _ _)))); intro v206 w52 ho53 hb hg_ hnew_; clear hg_ hnew_; (first | rw [← Ny205.out] at ho53 | (simp only [Int.reduceToNat] at ho53; rw [← Ny205.out] at ho53)); have n0_ := Aside0.mk (Kd.R_below (by (with_reducible repeat (first | apply Kd.R_alloc | apply Kd.R_drewN | apply Kd.R_drew)); exact HO200.out) hb); have n1_ := Aside0.mk (Kd.R_lower ho53 (below_size (by repeat (first | (with_reducible first | exact HB.out | apply below_alloc | apply pw_below_drewN | apply below_drew1) | exact HB.out)))); have n2_ := Aside0.mk (below_step (by repeat (first | (with_reducible first | exact HB.out | apply below_alloc | apply pw_below_drewN | apply below_drew1) | exact HB.out)) hb); clear HO200; clear HB; have HO200 := n0_; have HO207 := n1_; have HB := n2_; clear n0_ n1_ n2_; clear hb ho53; obtain ⟨Ao54, co54, eo54⟩ := Kd.R_slice HO207.out; subst eo54) | ((with_reducible refine gate_callee (f := 10) rfl ?_); refine goesL_ (some 52) rfl rfl Tryz.func10 (by kernel_rfl) rfl #[.slice Ao54 y205.length co54, .int .i64 (wrap64 (a1))] rfl (by (try simp only [List.map_toArray, List.map_cons, List.map_nil]); first | done | rfl | (simp only [List.length_drop, List.length_take]; rfl)) ?_; (with_reducible refine (feed_Reset.calls k1 _ _ y205 (wrap64 (a1)) t208 true _ ?side3 ?side1 ?side2 A8.out).mono ?_); (case side1 => repeat (first | exact (Kd.R_reads' HO207.out).2.2 | (with_reducible refine Kd.C_alloc ?_ _) | (with_reducible refine Kd.C_drewN ?_ _) | (with_reducible refine Kd.C_drew ?_))); (case side2 => exact (Kd.R_reads' HO207.out).2.1); (case side3 => exact HG.out.below (by repeat (first | (with_reducible first | exact HB.out | apply below_alloc | apply pw_below_drewN | apply below_drew1) | exact HB.out))); rintro e w55 ⟨rfl, hb⟩; refine ⟨_, rfl, ?_⟩; have n0_ := Aside0.mk (Kd.R_below (by (with_reducible repeat (first | apply Kd.R_alloc | apply Kd.R_drewN | apply Kd.R_drew)); exact HO200.out) hb); have n1_ := Aside0.mk (Kd.R_below (by (with_reducible repeat (first | apply Kd.R_alloc | apply Kd.R_drewN | apply Kd.R_drew)); exact HO207.out) hb); have n2_ := Aside0.mk (below_step (by repeat (first | (with_reducible first | exact HB.out | apply below_alloc | apply pw_below_drewN | apply below_drew1) | exact HB.out)) hb); clear HO200; clear HO207; clear HB; have HO200 := n0_; have HO207 := n1_; have HB := n2_; clear n0_ n1_ n2_; (try clear hb); (try clear hb2); (try clear hk); (try clear hi)) | ((with_reducible refine gate_callee (f := 9) rfl ?_); refine goesL_ (some 55) rfl rfl Tryz.func9 (by kernel_rfl) rfl #[] rfl (by (try simp only [List.map_toArray, List.map_cons, List.map_nil]); first | done | rfl | (simp only [List.length_drop, List.length_take]; rfl)) ?_; (with_reducible refine (decorumlaw08_awake.calls k1  true _ ?side1 A9.out).mono ?_); (case side1 => exact HG.out.below (by repeat (first | (with_reducible first | exact HB.out | apply below_alloc | apply pw_below_drewN | apply below_drew1) | exact HB.out))); rintro e w56 ⟨rfl, hb⟩; refine ⟨_, rfl, ?_⟩; have n0_ := Aside0.mk (Kd.R_below (by (with_reducible repeat (first | apply Kd.R_alloc | apply Kd.R_drewN | apply Kd.R_drew)); exact HO200.out) hb); have n1_ := Aside0.mk (Kd.R_below (by (with_reducible repeat (first | apply Kd.R_alloc | apply Kd.R_drewN | apply Kd.R_drew)); exact HO207.out) hb); have n2_ := Aside0.mk (below_step (by repeat (first | (with_reducible first | exact HB.out | apply below_alloc | apply pw_below_drewN | apply below_drew1) | exact HB.out)) hb); clear HO200; clear HO207; clear HB; have HO200 := n0_; have HO207 := n1_; have HB := n2_; clear n0_ n1_ n2_; (try clear hb); (try clear hb2); (try clear hk); (try clear hi)))
                    go_ret
                    exact ⟨by first | rfl | (simp [errW_none, errW_some] <;> rfl) | (simp [*, errW_none, errW_some] <;> rfl), by repeat (first | (with_reducible first | exact HB.out | apply below_alloc | apply pw_below_drewN | apply below_drew1) | exact HB.out)⟩
                · replace c13 := Bool.eq_false_iff.mpr c13
                  subst c13
                  have H1 : (some false) = some r := by rw [if_neg (show ¬ (false = true) by decide)] at H; exact H
                  clear H
                  have H := H1
                  clear H1
                  obtain rfl := Option.some.inj H
                  go_wp2_with (first | ((with_reducible refine gate_dst (N := 22) rfl ?_); refine Kd.R_lit (Kd.int .u8) _ 5 ?hg (N := 22) ?hd (xs := ([((48 + (Int.tmod x8_1 10)) % 4294967296) % 256] : List Int)) (inner := [.int .u8 (((48 + (Int.tmod x8_1 10)) % 4294967296) % 256)]) (ok := fun _ => True) (okp := fun _ => True) ?hr ?hp (fun _ hk => hk) trivial (Below.refl _ _) (Nat.le_refl _) (by simp) ?_; (case hd => rfl); (case hg => rfl); (case hr => first | (go_simp; done) | (go_simp; rfl)); (case hp => exact (Reps.one (show Kd.M (Kd.int .u8) _ _ _ (((48 + (Int.tmod x8_1 10)) % 4294967296) % 256) [.int .u8 (((48 + (Int.tmod x8_1 10)) % 4294967296) % 256)] from rfl) (Reps.none _ _))); intro v199 w57 ho58 hb hg_ hnew_; clear hg_ hnew_; (first | rw [← Ny198.out] at ho58 | (simp only [Int.reduceToNat] at ho58; rw [← Ny198.out] at ho58)); have n0_ := Aside0.mk (Kd.R_lower ho58 (below_size (by repeat (first | (with_reducible first | exact HB.out | apply below_alloc | apply pw_below_drewN | apply below_drew1) | exact HB.out)))); have n1_ := Aside0.mk (below_step (by repeat (first | (with_reducible first | exact HB.out | apply below_alloc | apply pw_below_drewN | apply below_drew1) | exact HB.out)) hb); clear HB; have HO200 := n0_; have HB := n1_; clear n0_ n1_; clear hb ho58; have hcv59 := own_string (P := Tryz.prog) Tryz.underlying33 Tryz.underlying5 Tryz.underlying9 (Kd.own_of_R HO200.out)) | ((with_reducible refine gate_callee (f := 14) rfl ?_); refine goesL_ (some 32) rfl rfl Tryz.func14 (by kernel_rfl) rfl #[.string ((strOfNums y198) ++ x7_1), .int .i64 (wrap64 (a1))] rfl (by (try simp only [List.map_toArray, List.map_cons, List.map_nil]); first | done | rfl | (simp only [List.length_drop, List.length_take]; rfl)) ?_; (with_reducible refine (feed_Retry.calls ((strOfNums y198) ++ x7_1) (wrap64 (a1)) t201 true _ ?side1 A6.out).mono ?_); (case side1 => exact HG.out.below (by repeat (first | (with_reducible first | exact HB.out | apply below_alloc | apply pw_below_drewN | apply below_drew1) | exact HB.out))); rintro e w60 ⟨rfl, hb⟩; refine ⟨_, rfl, ?_⟩; have n0_ := Aside0.mk (Kd.R_below (by (with_reducible repeat (first | apply Kd.R_alloc | apply Kd.R_drewN | apply Kd.R_drew)); exact HO200.out) hb); have n1_ := Aside0.mk (below_step (by repeat (first | (with_reducible first | exact HB.out | apply below_alloc | apply pw_below_drewN | apply below_drew1) | exact HB.out)) hb); clear HO200; clear HB; have HO200 := n0_; have HB := n1_; clear n0_ n1_; (try clear hb); (try clear hb2); (try clear hk); (try clear hi)) | ((with_reducible refine gate_callee (f := 14) rfl ?_); refine goesL_ (some 42) rfl rfl Tryz.func14 (by kernel_rfl) rfl #[.string ((strOfNums y198) ++ x7_1), .int .i64 (wrap64 ((wrap64 (a1)) + (wrap64 (a2))))] rfl (by (try simp only [List.map_toArray, List.map_cons, List.map_nil]); first | done | rfl | (simp only [List.length_drop, List.length_take]; rfl)) ?_; (with_reducible refine (feed_Retry.calls ((strOfNums y198) ++ x7_1) (wrap64 ((wrap64 (a1)) + (wrap64 (a2)))) t203 true _ ?side1 A7.out).mono ?_); (case side1 => exact HG.out.below (by repeat (first | (with_reducible first | exact HB.out | apply below_alloc | apply pw_below_drewN | apply below_drew1) | exact HB.out))); rintro e w61 ⟨rfl, hb⟩; refine ⟨_, rfl, ?_⟩; have n0_ := Aside0.mk (Kd.R_below (by (with_reducible repeat (first | apply Kd.R_alloc | apply Kd.R_drewN | apply Kd.R_drew)); exact HO200.out) hb); have n1_ := Aside0.mk (below_step (by repeat (first | (with_reducible first | exact HB.out | apply below_alloc | apply pw_below_drewN | apply below_drew1) | exact HB.out)) hb); clear HO200; clear HB; have HO200 := n0_; have HB := n1_; clear n0_ n1_; (try clear hb); (try clear hb2); (try clear hk); (try clear hi)) | ((with_reducible refine gate_dst (N := 49) rfl ?_); refine Kd.R_lit k36 _ 36 ?hg (N := 49) ?hd (xs := ([(⟨(⟨#[120, 45, 114, 97, 116, 101, 108, 105, 109, 105, 116, 45, 114, 101, 109, 97, 105, 110, 105, 110, 103]⟩ : ByteArray), (⟨#[48]⟩ : ByteArray)⟩ : S36), (⟨(⟨#[88, 45, 82, 65, 84, 69, 76, 73, 77, 73, 84, 45, 82, 69, 83, 69, 84]⟩ : ByteArray), (strOfNums y198) ++ x7_1⟩ : S36)] : List (S36))) (inner := [.string (⟨#[120, 45, 114, 97, 116, 101, 108, 105, 109, 105, 116, 45, 114, 101, 109, 97, 105, 110, 105, 110, 103]⟩ : ByteArray), .string (⟨#[48]⟩ : ByteArray), .string (⟨#[88, 45, 82, 65, 84, 69, 76, 73, 77, 73, 84, 45, 82, 69, 83, 69, 84]⟩ : ByteArray), .string ((strOfNums y198) ++ x7_1)]) (ok := fun _ => True) (okp := fun _ => True) ?hr ?hp (fun _ hk => hk) trivial (Below.refl _ _) (Nat.le_refl _) (by simp) ?_; (case hd => rfl); (case hg => rfl); (case hr => first | (go_simp; done) | (go_simp; rfl)); (case hp => exact (Reps.c2 (show Kd.M k36 _ _ _ (⟨(⟨#[120, 45, 114, 97, 116, 101, 108, 105, 109, 105, 116, 45, 114, 101, 109, 97, 105, 110, 105, 110, 103]⟩ : ByteArray), (⟨#[48]⟩ : ByteArray)⟩ : S36) [.string (⟨#[120, 45, 114, 97, 116, 101, 108, 105, 109, 105, 116, 45, 114, 101, 109, 97, 105, 110, 105, 110, 103]⟩ : ByteArray), .string (⟨#[48]⟩ : ByteArray)] from (k36_mkM _ _ _ (⟨(⟨#[120, 45, 114, 97, 116, 101, 108, 105, 109, 105, 116, 45, 114, 101, 109, 97, 105, 110, 105, 110, 103]⟩ : ByteArray), (⟨#[48]⟩ : ByteArray)⟩ : S36) )) (Reps.c2 (show Kd.M k36 _ _ _ (⟨(⟨#[88, 45, 82, 65, 84, 69, 76, 73, 77, 73, 84, 45, 82, 69, 83, 69, 84]⟩ : ByteArray), (strOfNums y198) ++ x7_1⟩ : S36) [.string (⟨#[88, 45, 82, 65, 84, 69, 76, 73, 77, 73, 84, 45, 82, 69, 83, 69, 84]⟩ : ByteArray), .string ((strOfNums y198) ++ x7_1)] from (k36_mkM _ _ _ (⟨(⟨#[88, 45, 82, 65, 84, 69, 76, 73, 77, 73, 84, 45, 82, 69, 83, 69, 84]⟩ : ByteArray), (strOfNums y198) ++ x7_1⟩ : S36) )) (Reps.none _ _)))); intro v206 w62 ho63 hb hg_ hnew_; clear hg_ hnew_; (first | rw [← Ny205.out] at ho63 | (simp only [Int.reduceToNat] at ho63; rw [← Ny205.out] at ho63)); have n0_ := Aside0.mk (Kd.R_below (by (with_reducible repeat (first | apply Kd.R_alloc | apply Kd.R_drewN | apply Kd.R_drew)); exact HO200.out) hb); have n1_ := Aside0.mk (Kd.R_lower ho63 (below_size (by repeat (first | (with_reducible first | exact HB.out | apply below_alloc | apply pw_below_drewN | apply below_drew1) | exact HB.out)))); have n2_ := Aside0.mk (below_step (by repeat (first | (with_reducible first | exact HB.out | apply below_alloc | apply pw_below_drewN | apply below_drew1) | exact HB.out)) hb); clear HO200; clear HB; have HO200 := n0_; have HO207 := n1_; have HB := n2_; clear n0_ n1_ n2_; clear hb ho63; obtain ⟨Ao64, co64, eo64⟩ := Kd.R_slice HO207.out; subst eo64) | ((with_reducible refine gate_callee (f := 10) rfl ?_); refine goesL_ (some 52) rfl rfl Tryz.func10 (by kernel_rfl) rfl #[.slice Ao64 y205.length co64, .int .i64 (wrap64 (a1))] rfl (by (try simp only [List.map_toArray, List.map_cons, List.map_nil]); first | done | rfl | (simp only [List.length_drop, List.length_take]; rfl)) ?_; (with_reducible refine (feed_Reset.calls k1 _ _ y205 (wrap64 (a1)) t208 false _ ?side3 ?side1 ?side2 A8.out).mono ?_); (case side1 => repeat (first | exact (Kd.R_reads' HO207.out).2.2 | (with_reducible refine Kd.C_alloc ?_ _) | (with_reducible refine Kd.C_drewN ?_ _) | (with_reducible refine Kd.C_drew ?_))); (case side2 => exact (Kd.R_reads' HO207.out).2.1); (case side3 => exact HG.out.below (by repeat (first | (with_reducible first | exact HB.out | apply below_alloc | apply pw_below_drewN | apply below_drew1) | exact HB.out))); rintro e w65 ⟨rfl, hb⟩; refine ⟨_, rfl, ?_⟩; have n0_ := Aside0.mk (Kd.R_below (by (with_reducible repeat (first | apply Kd.R_alloc | apply Kd.R_drewN | apply Kd.R_drew)); exact HO200.out) hb); have n1_ := Aside0.mk (Kd.R_below (by (with_reducible repeat (first | apply Kd.R_alloc | apply Kd.R_drewN | apply Kd.R_drew)); exact HO207.out) hb); have n2_ := Aside0.mk (below_step (by repeat (first | (with_reducible first | exact HB.out | apply below_alloc | apply pw_below_drewN | apply below_drew1) | exact HB.out)) hb); clear HO200; clear HO207; clear HB; have HO200 := n0_; have HO207 := n1_; have HB := n2_; clear n0_ n1_ n2_; (try clear hb); (try clear hb2); (try clear hk); (try clear hi)) | ((with_reducible refine gate_callee (f := 9) rfl ?_); refine goesL_ (some 55) rfl rfl Tryz.func9 (by kernel_rfl) rfl #[] rfl (by (try simp only [List.map_toArray, List.map_cons, List.map_nil]); first | done | rfl | (simp only [List.length_drop, List.length_take]; rfl)) ?_; (with_reducible refine (decorumlaw08_awake.calls k1  true _ ?side1 A9.out).mono ?_); (case side1 => exact HG.out.below (by repeat (first | (with_reducible first | exact HB.out | apply below_alloc | apply pw_below_drewN | apply below_drew1) | exact HB.out))); rintro e w66 ⟨rfl, hb⟩; refine ⟨_, rfl, ?_⟩; have n0_ := Aside0.mk (Kd.R_below (by (with_reducible repeat (first | apply Kd.R_alloc | apply Kd.R_drewN | apply Kd.R_drew)); exact HO200.out) hb); have n1_ := Aside0.mk (Kd.R_below (by (with_reducible repeat (first | apply Kd.R_alloc | apply Kd.R_drewN | apply Kd.R_drew)); exact HO207.out) hb); have n2_ := Aside0.mk (below_step (by repeat (first | (with_reducible first | exact HB.out | apply below_alloc | apply pw_below_drewN | apply below_drew1) | exact HB.out)) hb); clear HO200; clear HO207; clear HB; have HO200 := n0_; have HO207 := n1_; have HB := n2_; clear n0_ n1_ n2_; (try clear hb); (try clear hb2); (try clear hk); (try clear hi)))
                  go_ret
                  exact ⟨by first | rfl | (simp [errW_none, errW_some] <;> rfl) | (simp [*, errW_none, errW_some] <;> rfl), by repeat (first | (with_reducible first | exact HB.out | apply below_alloc | apply pw_below_drewN | apply below_drew1) | exact HB.out)⟩
              · replace c12 := Bool.eq_false_iff.mpr c12
                subst c12
                have H1 : (some false) = some r := by rw [if_neg (show ¬ (false = true) by decide)] at H; exact H
                clear H
                have H := H1
                clear H1
                obtain rfl := Option.some.inj H
                go_wp2_with (first | ((with_reducible refine gate_dst (N := 22) rfl ?_); refine Kd.R_lit (Kd.int .u8) _ 5 ?hg (N := 22) ?hd (xs := ([((48 + (Int.tmod x8_1 10)) % 4294967296) % 256] : List Int)) (inner := [.int .u8 (((48 + (Int.tmod x8_1 10)) % 4294967296) % 256)]) (ok := fun _ => True) (okp := fun _ => True) ?hr ?hp (fun _ hk => hk) trivial (Below.refl _ _) (Nat.le_refl _) (by simp) ?_; (case hd => rfl); (case hg => rfl); (case hr => first | (go_simp; done) | (go_simp; rfl)); (case hp => exact (Reps.one (show Kd.M (Kd.int .u8) _ _ _ (((48 + (Int.tmod x8_1 10)) % 4294967296) % 256) [.int .u8 (((48 + (Int.tmod x8_1 10)) % 4294967296) % 256)] from rfl) (Reps.none _ _))); intro v199 w67 ho68 hb hg_ hnew_; clear hg_ hnew_; (first | rw [← Ny198.out] at ho68 | (simp only [Int.reduceToNat] at ho68; rw [← Ny198.out] at ho68)); have n0_ := Aside0.mk (Kd.R_lower ho68 (below_size (by repeat (first | (with_reducible first | exact HB.out | apply below_alloc | apply pw_below_drewN | apply below_drew1) | exact HB.out)))); have n1_ := Aside0.mk (below_step (by repeat (first | (with_reducible first | exact HB.out | apply below_alloc | apply pw_below_drewN | apply below_drew1) | exact HB.out)) hb); clear HB; have HO200 := n0_; have HB := n1_; clear n0_ n1_; clear hb ho68; have hcv69 := own_string (P := Tryz.prog) Tryz.underlying33 Tryz.underlying5 Tryz.underlying9 (Kd.own_of_R HO200.out)) | ((with_reducible refine gate_callee (f := 14) rfl ?_); refine goesL_ (some 32) rfl rfl Tryz.func14 (by kernel_rfl) rfl #[.string ((strOfNums y198) ++ x7_1), .int .i64 (wrap64 (a1))] rfl (by (try simp only [List.map_toArray, List.map_cons, List.map_nil]); first | done | rfl | (simp only [List.length_drop, List.length_take]; rfl)) ?_; (with_reducible refine (feed_Retry.calls ((strOfNums y198) ++ x7_1) (wrap64 (a1)) t201 true _ ?side1 A6.out).mono ?_); (case side1 => exact HG.out.below (by repeat (first | (with_reducible first | exact HB.out | apply below_alloc | apply pw_below_drewN | apply below_drew1) | exact HB.out))); rintro e w70 ⟨rfl, hb⟩; refine ⟨_, rfl, ?_⟩; have n0_ := Aside0.mk (Kd.R_below (by (with_reducible repeat (first | apply Kd.R_alloc | apply Kd.R_drewN | apply Kd.R_drew)); exact HO200.out) hb); have n1_ := Aside0.mk (below_step (by repeat (first | (with_reducible first | exact HB.out | apply below_alloc | apply pw_below_drewN | apply below_drew1) | exact HB.out)) hb); clear HO200; clear HB; have HO200 := n0_; have HB := n1_; clear n0_ n1_; (try clear hb); (try clear hb2); (try clear hk); (try clear hi)) | ((with_reducible refine gate_callee (f := 14) rfl ?_); refine goesL_ (some 42) rfl rfl Tryz.func14 (by kernel_rfl) rfl #[.string ((strOfNums y198) ++ x7_1), .int .i64 (wrap64 ((wrap64 (a1)) + (wrap64 (a2))))] rfl (by (try simp only [List.map_toArray, List.map_cons, List.map_nil]); first | done | rfl | (simp only [List.length_drop, List.length_take]; rfl)) ?_; (with_reducible refine (feed_Retry.calls ((strOfNums y198) ++ x7_1) (wrap64 ((wrap64 (a1)) + (wrap64 (a2)))) t203 false _ ?side1 A7.out).mono ?_); (case side1 => exact HG.out.below (by repeat (first | (with_reducible first | exact HB.out | apply below_alloc | apply pw_below_drewN | apply below_drew1) | exact HB.out))); rintro e w71 ⟨rfl, hb⟩; refine ⟨_, rfl, ?_⟩; have n0_ := Aside0.mk (Kd.R_below (by (with_reducible repeat (first | apply Kd.R_alloc | apply Kd.R_drewN | apply Kd.R_drew)); exact HO200.out) hb); have n1_ := Aside0.mk (below_step (by repeat (first | (with_reducible first | exact HB.out | apply below_alloc | apply pw_below_drewN | apply below_drew1) | exact HB.out)) hb); clear HO200; clear HB; have HO200 := n0_; have HB := n1_; clear n0_ n1_; (try clear hb); (try clear hb2); (try clear hk); (try clear hi)) | ((with_reducible refine gate_dst (N := 49) rfl ?_); refine Kd.R_lit k36 _ 36 ?hg (N := 49) ?hd (xs := ([(⟨(⟨#[120, 45, 114, 97, 116, 101, 108, 105, 109, 105, 116, 45, 114, 101, 109, 97, 105, 110, 105, 110, 103]⟩ : ByteArray), (⟨#[48]⟩ : ByteArray)⟩ : S36), (⟨(⟨#[88, 45, 82, 65, 84, 69, 76, 73, 77, 73, 84, 45, 82, 69, 83, 69, 84]⟩ : ByteArray), (strOfNums y198) ++ x7_1⟩ : S36)] : List (S36))) (inner := [.string (⟨#[120, 45, 114, 97, 116, 101, 108, 105, 109, 105, 116, 45, 114, 101, 109, 97, 105, 110, 105, 110, 103]⟩ : ByteArray), .string (⟨#[48]⟩ : ByteArray), .string (⟨#[88, 45, 82, 65, 84, 69, 76, 73, 77, 73, 84, 45, 82, 69, 83, 69, 84]⟩ : ByteArray), .string ((strOfNums y198) ++ x7_1)]) (ok := fun _ => True) (okp := fun _ => True) ?hr ?hp (fun _ hk => hk) trivial (Below.refl _ _) (Nat.le_refl _) (by simp) ?_; (case hd => rfl); (case hg => rfl); (case hr => first | (go_simp; done) | (go_simp; rfl)); (case hp => exact (Reps.c2 (show Kd.M k36 _ _ _ (⟨(⟨#[120, 45, 114, 97, 116, 101, 108, 105, 109, 105, 116, 45, 114, 101, 109, 97, 105, 110, 105, 110, 103]⟩ : ByteArray), (⟨#[48]⟩ : ByteArray)⟩ : S36) [.string (⟨#[120, 45, 114, 97, 116, 101, 108, 105, 109, 105, 116, 45, 114, 101, 109, 97, 105, 110, 105, 110, 103]⟩ : ByteArray), .string (⟨#[48]⟩ : ByteArray)] from (k36_mkM _ _ _ (⟨(⟨#[120, 45, 114, 97, 116, 101, 108, 105, 109, 105, 116, 45, 114, 101, 109, 97, 105, 110, 105, 110, 103]⟩ : ByteArray), (⟨#[48]⟩ : ByteArray)⟩ : S36) )) (Reps.c2 (show Kd.M k36 _ _ _ (⟨(⟨#[88, 45, 82, 65, 84, 69, 76, 73, 77, 73, 84, 45, 82, 69, 83, 69, 84]⟩ : ByteArray), (strOfNums y198) ++ x7_1⟩ : S36) [.string (⟨#[88, 45, 82, 65, 84, 69, 76, 73, 77, 73, 84, 45, 82, 69, 83, 69, 84]⟩ : ByteArray), .string ((strOfNums y198) ++ x7_1)] from (k36_mkM _ _ _ (⟨(⟨#[88, 45, 82, 65, 84, 69, 76, 73, 77, 73, 84, 45, 82, 69, 83, 69, 84]⟩ : ByteArray), (strOfNums y198) ++ x7_1⟩ : S36) )) (Reps.none _ _)))); intro v206 w72 ho73 hb hg_ hnew_; clear hg_ hnew_; (first | rw [← Ny205.out] at ho73 | (simp only [Int.reduceToNat] at ho73; rw [← Ny205.out] at ho73)); have n0_ := Aside0.mk (Kd.R_below (by (with_reducible repeat (first | apply Kd.R_alloc | apply Kd.R_drewN | apply Kd.R_drew)); exact HO200.out) hb); have n1_ := Aside0.mk (Kd.R_lower ho73 (below_size (by repeat (first | (with_reducible first | exact HB.out | apply below_alloc | apply pw_below_drewN | apply below_drew1) | exact HB.out)))); have n2_ := Aside0.mk (below_step (by repeat (first | (with_reducible first | exact HB.out | apply below_alloc | apply pw_below_drewN | apply below_drew1) | exact HB.out)) hb); clear HO200; clear HB; have HO200 := n0_; have HO207 := n1_; have HB := n2_; clear n0_ n1_ n2_; clear hb ho73; obtain ⟨Ao74, co74, eo74⟩ := Kd.R_slice HO207.out; subst eo74) | ((with_reducible refine gate_callee (f := 10) rfl ?_); refine goesL_ (some 52) rfl rfl Tryz.func10 (by kernel_rfl) rfl #[.slice Ao74 y205.length co74, .int .i64 (wrap64 (a1))] rfl (by (try simp only [List.map_toArray, List.map_cons, List.map_nil]); first | done | rfl | (simp only [List.length_drop, List.length_take]; rfl)) ?_; (with_reducible refine (feed_Reset.calls k1 _ _ y205 (wrap64 (a1)) t208 t209 _ ?side3 ?side1 ?side2 A8.out).mono ?_); (case side1 => repeat (first | exact (Kd.R_reads' HO207.out).2.2 | (with_reducible refine Kd.C_alloc ?_ _) | (with_reducible refine Kd.C_drewN ?_ _) | (with_reducible refine Kd.C_drew ?_))); (case side2 => exact (Kd.R_reads' HO207.out).2.1); (case side3 => exact HG.out.below (by repeat (first | (with_reducible first | exact HB.out | apply below_alloc | apply pw_below_drewN | apply below_drew1) | exact HB.out))); rintro e w75 ⟨rfl, hb⟩; refine ⟨_, rfl, ?_⟩; have n0_ := Aside0.mk (Kd.R_below (by (with_reducible repeat (first | apply Kd.R_alloc | apply Kd.R_drewN | apply Kd.R_drew)); exact HO200.out) hb); have n1_ := Aside0.mk (Kd.R_below (by (with_reducible repeat (first | apply Kd.R_alloc | apply Kd.R_drewN | apply Kd.R_drew)); exact HO207.out) hb); have n2_ := Aside0.mk (below_step (by repeat (first | (with_reducible first | exact HB.out | apply below_alloc | apply pw_below_drewN | apply below_drew1) | exact HB.out)) hb); clear HO200; clear HO207; clear HB; have HO200 := n0_; have HO207 := n1_; have HB := n2_; clear n0_ n1_ n2_; (try clear hb); (try clear hb2); (try clear hk); (try clear hi)) | ((with_reducible refine gate_callee (f := 9) rfl ?_); refine goesL_ (some 55) rfl rfl Tryz.func9 (by kernel_rfl) rfl #[] rfl (by (try simp only [List.map_toArray, List.map_cons, List.map_nil]); first | done | rfl | (simp only [List.length_drop, List.length_take]; rfl)) ?_; (with_reducible refine (decorumlaw08_awake.calls k1  true _ ?side1 A9.out).mono ?_); (case side1 => exact HG.out.below (by repeat (first | (with_reducible first | exact HB.out | apply below_alloc | apply pw_below_drewN | apply below_drew1) | exact HB.out))); rintro e w76 ⟨rfl, hb⟩; refine ⟨_, rfl, ?_⟩; have n0_ := Aside0.mk (Kd.R_below (by (with_reducible repeat (first | apply Kd.R_alloc | apply Kd.R_drewN | apply Kd.R_drew)); exact HO200.out) hb); have n1_ := Aside0.mk (Kd.R_below (by (with_reducible repeat (first | apply Kd.R_alloc | apply Kd.R_drewN | apply Kd.R_drew)); exact HO207.out) hb); have n2_ := Aside0.mk (below_step (by repeat (first | (with_reducible first | exact HB.out | apply below_alloc | apply pw_below_drewN | apply below_drew1) | exact HB.out)) hb); clear HO200; clear HO207; clear HB; have HO200 := n0_; have HO207 := n1_; have HB := n2_; clear n0_ n1_ n2_; (try clear hb); (try clear hb2); (try clear hk); (try clear hi)))
                go_ret
                exact ⟨by first | rfl | (simp [errW_none, errW_some] <;> rfl) | (simp [*, errW_none, errW_some] <;> rfl), by repeat (first | (with_reducible first | exact HB.out | apply below_alloc | apply pw_below_drewN | apply below_drew1) | exact HB.out)⟩
            · replace c11 := Bool.eq_false_iff.mpr c11
              subst c11
              have H1 : (some false) = some r := by rw [if_neg (show ¬ (false = true) by decide)] at H; exact H
              clear H
              have H := H1
              clear H1
              obtain rfl := Option.some.inj H
              go_wp2_with (first | ((with_reducible refine gate_dst (N := 22) rfl ?_); refine Kd.R_lit (Kd.int .u8) _ 5 ?hg (N := 22) ?hd (xs := ([((48 + (Int.tmod x8_1 10)) % 4294967296) % 256] : List Int)) (inner := [.int .u8 (((48 + (Int.tmod x8_1 10)) % 4294967296) % 256)]) (ok := fun _ => True) (okp := fun _ => True) ?hr ?hp (fun _ hk => hk) trivial (Below.refl _ _) (Nat.le_refl _) (by simp) ?_; (case hd => rfl); (case hg => rfl); (case hr => first | (go_simp; done) | (go_simp; rfl)); (case hp => exact (Reps.one (show Kd.M (Kd.int .u8) _ _ _ (((48 + (Int.tmod x8_1 10)) % 4294967296) % 256) [.int .u8 (((48 + (Int.tmod x8_1 10)) % 4294967296) % 256)] from rfl) (Reps.none _ _))); intro v199 w77 ho78 hb hg_ hnew_; clear hg_ hnew_; (first | rw [← Ny198.out] at ho78 | (simp only [Int.reduceToNat] at ho78; rw [← Ny198.out] at ho78)); have n0_ := Aside0.mk (Kd.R_lower ho78 (below_size (by repeat (first | (with_reducible first | exact HB.out | apply below_alloc | apply pw_below_drewN | apply below_drew1) | exact HB.out)))); have n1_ := Aside0.mk (below_step (by repeat (first | (with_reducible first | exact HB.out | apply below_alloc | apply pw_below_drewN | apply below_drew1) | exact HB.out)) hb); clear HB; have HO200 := n0_; have HB := n1_; clear n0_ n1_; clear hb ho78; have hcv79 := own_string (P := Tryz.prog) Tryz.underlying33 Tryz.underlying5 Tryz.underlying9 (Kd.own_of_R HO200.out)) | ((with_reducible refine gate_callee (f := 14) rfl ?_); refine goesL_ (some 32) rfl rfl Tryz.func14 (by kernel_rfl) rfl #[.string ((strOfNums y198) ++ x7_1), .int .i64 (wrap64 (a1))] rfl (by (try simp only [List.map_toArray, List.map_cons, List.map_nil]); first | done | rfl | (simp only [List.length_drop, List.length_take]; rfl)) ?_; (with_reducible refine (feed_Retry.calls ((strOfNums y198) ++ x7_1) (wrap64 (a1)) t201 false _ ?side1 A6.out).mono ?_); (case side1 => exact HG.out.below (by repeat (first | (with_reducible first | exact HB.out | apply below_alloc | apply pw_below_drewN | apply below_drew1) | exact HB.out))); rintro e w80 ⟨rfl, hb⟩; refine ⟨_, rfl, ?_⟩; have n0_ := Aside0.mk (Kd.R_below (by (with_reducible repeat (first | apply Kd.R_alloc | apply Kd.R_drewN | apply Kd.R_drew)); exact HO200.out) hb); have n1_ := Aside0.mk (below_step (by repeat (first | (with_reducible first | exact HB.out | apply below_alloc | apply pw_below_drewN | apply below_drew1) | exact HB.out)) hb); clear HO200; clear HB; have HO200 := n0_; have HB := n1_; clear n0_ n1_; (try clear hb); (try clear hb2); (try clear hk); (try clear hi)) | ((with_reducible refine gate_callee (f := 14) rfl ?_); refine goesL_ (some 42) rfl rfl Tryz.func14 (by kernel_rfl) rfl #[.string ((strOfNums y198) ++ x7_1), .int .i64 (wrap64 ((wrap64 (a1)) + (wrap64 (a2))))] rfl (by (try simp only [List.map_toArray, List.map_cons, List.map_nil]); first | done | rfl | (simp only [List.length_drop, List.length_take]; rfl)) ?_; (with_reducible refine (feed_Retry.calls ((strOfNums y198) ++ x7_1) (wrap64 ((wrap64 (a1)) + (wrap64 (a2)))) t203 t204 _ ?side1 A7.out).mono ?_); (case side1 => exact HG.out.below (by repeat (first | (with_reducible first | exact HB.out | apply below_alloc | apply pw_below_drewN | apply below_drew1) | exact HB.out))); rintro e w81 ⟨rfl, hb⟩; refine ⟨_, rfl, ?_⟩; have n0_ := Aside0.mk (Kd.R_below (by (with_reducible repeat (first | apply Kd.R_alloc | apply Kd.R_drewN | apply Kd.R_drew)); exact HO200.out) hb); have n1_ := Aside0.mk (below_step (by repeat (first | (with_reducible first | exact HB.out | apply below_alloc | apply pw_below_drewN | apply below_drew1) | exact HB.out)) hb); clear HO200; clear HB; have HO200 := n0_; have HB := n1_; clear n0_ n1_; (try clear hb); (try clear hb2); (try clear hk); (try clear hi)) | ((with_reducible refine gate_dst (N := 49) rfl ?_); refine Kd.R_lit k36 _ 36 ?hg (N := 49) ?hd (xs := ([(⟨(⟨#[120, 45, 114, 97, 116, 101, 108, 105, 109, 105, 116, 45, 114, 101, 109, 97, 105, 110, 105, 110, 103]⟩ : ByteArray), (⟨#[48]⟩ : ByteArray)⟩ : S36), (⟨(⟨#[88, 45, 82, 65, 84, 69, 76, 73, 77, 73, 84, 45, 82, 69, 83, 69, 84]⟩ : ByteArray), (strOfNums y198) ++ x7_1⟩ : S36)] : List (S36))) (inner := [.string (⟨#[120, 45, 114, 97, 116, 101, 108, 105, 109, 105, 116, 45, 114, 101, 109, 97, 105, 110, 105, 110, 103]⟩ : ByteArray), .string (⟨#[48]⟩ : ByteArray), .string (⟨#[88, 45, 82, 65, 84, 69, 76, 73, 77, 73, 84, 45, 82, 69, 83, 69, 84]⟩ : ByteArray), .string ((strOfNums y198) ++ x7_1)]) (ok := fun _ => True) (okp := fun _ => True) ?hr ?hp (fun _ hk => hk) trivial (Below.refl _ _) (Nat.le_refl _) (by simp) ?_; (case hd => rfl); (case hg => rfl); (case hr => first | (go_simp; done) | (go_simp; rfl)); (case hp => exact (Reps.c2 (show Kd.M k36 _ _ _ (⟨(⟨#[120, 45, 114, 97, 116, 101, 108, 105, 109, 105, 116, 45, 114, 101, 109, 97, 105, 110, 105, 110, 103]⟩ : ByteArray), (⟨#[48]⟩ : ByteArray)⟩ : S36) [.string (⟨#[120, 45, 114, 97, 116, 101, 108, 105, 109, 105, 116, 45, 114, 101, 109, 97, 105, 110, 105, 110, 103]⟩ : ByteArray), .string (⟨#[48]⟩ : ByteArray)] from (k36_mkM _ _ _ (⟨(⟨#[120, 45, 114, 97, 116, 101, 108, 105, 109, 105, 116, 45, 114, 101, 109, 97, 105, 110, 105, 110, 103]⟩ : ByteArray), (⟨#[48]⟩ : ByteArray)⟩ : S36) )) (Reps.c2 (show Kd.M k36 _ _ _ (⟨(⟨#[88, 45, 82, 65, 84, 69, 76, 73, 77, 73, 84, 45, 82, 69, 83, 69, 84]⟩ : ByteArray), (strOfNums y198) ++ x7_1⟩ : S36) [.string (⟨#[88, 45, 82, 65, 84, 69, 76, 73, 77, 73, 84, 45, 82, 69, 83, 69, 84]⟩ : ByteArray), .string ((strOfNums y198) ++ x7_1)] from (k36_mkM _ _ _ (⟨(⟨#[88, 45, 82, 65, 84, 69, 76, 73, 77, 73, 84, 45, 82, 69, 83, 69, 84]⟩ : ByteArray), (strOfNums y198) ++ x7_1⟩ : S36) )) (Reps.none _ _)))); intro v206 w82 ho83 hb hg_ hnew_; clear hg_ hnew_; (first | rw [← Ny205.out] at ho83 | (simp only [Int.reduceToNat] at ho83; rw [← Ny205.out] at ho83)); have n0_ := Aside0.mk (Kd.R_below (by (with_reducible repeat (first | apply Kd.R_alloc | apply Kd.R_drewN | apply Kd.R_drew)); exact HO200.out) hb); have n1_ := Aside0.mk (Kd.R_lower ho83 (below_size (by repeat (first | (with_reducible first | exact HB.out | apply below_alloc | apply pw_below_drewN | apply below_drew1) | exact HB.out)))); have n2_ := Aside0.mk (below_step (by repeat (first | (with_reducible first | exact HB.out | apply below_alloc | apply pw_below_drewN | apply below_drew1) | exact HB.out)) hb); clear HO200; clear HB; have HO200 := n0_; have HO207 := n1_; have HB := n2_; clear n0_ n1_ n2_; clear hb ho83; obtain ⟨Ao84, co84, eo84⟩ := Kd.R_slice HO207.out; subst eo84) | ((with_reducible refine gate_callee (f := 10) rfl ?_); refine goesL_ (some 52) rfl rfl Tryz.func10 (by kernel_rfl) rfl #[.slice Ao84 y205.length co84, .int .i64 (wrap64 (a1))] rfl (by (try simp only [List.map_toArray, List.map_cons, List.map_nil]); first | done | rfl | (simp only [List.length_drop, List.length_take]; rfl)) ?_; (with_reducible refine (feed_Reset.calls k1 _ _ y205 (wrap64 (a1)) t208 t209 _ ?side3 ?side1 ?side2 A8.out).mono ?_); (case side1 => repeat (first | exact (Kd.R_reads' HO207.out).2.2 | (with_reducible refine Kd.C_alloc ?_ _) | (with_reducible refine Kd.C_drewN ?_ _) | (with_reducible refine Kd.C_drew ?_))); (case side2 => exact (Kd.R_reads' HO207.out).2.1); (case side3 => exact HG.out.below (by repeat (first | (with_reducible first | exact HB.out | apply below_alloc | apply pw_below_drewN | apply below_drew1) | exact HB.out))); rintro e w85 ⟨rfl, hb⟩; refine ⟨_, rfl, ?_⟩; have n0_ := Aside0.mk (Kd.R_below (by (with_reducible repeat (first | apply Kd.R_alloc | apply Kd.R_drewN | apply Kd.R_drew)); exact HO200.out) hb); have n1_ := Aside0.mk (Kd.R_below (by (with_reducible repeat (first | apply Kd.R_alloc | apply Kd.R_drewN | apply Kd.R_drew)); exact HO207.out) hb); have n2_ := Aside0.mk (below_step (by repeat (first | (with_reducible first | exact HB.out | apply below_alloc | apply pw_below_drewN | apply below_drew1) | exact HB.out)) hb); clear HO200; clear HO207; clear HB; have HO200 := n0_; have HO207 := n1_; have HB := n2_; clear n0_ n1_ n2_; (try clear hb); (try clear hb2); (try clear hk); (try clear hi)) | ((with_reducible refine gate_callee (f := 9) rfl ?_); refine goesL_ (some 55) rfl rfl Tryz.func9 (by kernel_rfl) rfl #[] rfl (by (try simp only [List.map_toArray, List.map_cons, List.map_nil]); first | done | rfl | (simp only [List.length_drop, List.length_take]; rfl)) ?_; (with_reducible refine (decorumlaw08_awake.calls k1  true _ ?side1 A9.out).mono ?_); (case side1 => exact HG.out.below (by repeat (first | (with_reducible first | exact HB.out | apply below_alloc | apply pw_below_drewN | apply below_drew1) | exact HB.out))); rintro e w86 ⟨rfl, hb⟩; refine ⟨_, rfl, ?_⟩; have n0_ := Aside0.mk (Kd.R_below (by (with_reducible repeat (first | apply Kd.R_alloc | apply Kd.R_drewN | apply Kd.R_drew)); exact HO200.out) hb); have n1_ := Aside0.mk (Kd.R_below (by (with_reducible repeat (first | apply Kd.R_alloc | apply Kd.R_drewN | apply Kd.R_drew)); exact HO207.out) hb); have n2_ := Aside0.mk (below_step (by repeat (first | (with_reducible first | exact HB.out | apply below_alloc | apply pw_below_drewN | apply below_drew1) | exact HB.out)) hb); clear HO200; clear HO207; clear HB; have HO200 := n0_; have HO207 := n1_; have HB := n2_; clear n0_ n1_ n2_; (try clear hb); (try clear hb2); (try clear hk); (try clear hi)))
              go_ret
              exact ⟨by first | rfl | (simp [errW_none, errW_some] <;> rfl) | (simp [*, errW_none, errW_some] <;> rfl), by repeat (first | (with_reducible first | exact HB.out | apply below_alloc | apply pw_below_drewN | apply below_drew1) | exact HB.out)⟩
          · replace c10 := Bool.eq_false_iff.mpr c10
            subst c10
            have H1 : (some false) = some r := by rw [if_neg (show ¬ (false = true) by decide)] at H; exact H
            clear H
            have H := H1
            clear H1
            obtain rfl := Option.some.inj H
            go_wp2_with (first | ((with_reducible refine gate_dst (N := 22) rfl ?_); refine Kd.R_lit (Kd.int .u8) _ 5 ?hg (N := 22) ?hd (xs := ([((48 + (Int.tmod x8_1 10)) % 4294967296) % 256] : List Int)) (inner := [.int .u8 (((48 + (Int.tmod x8_1 10)) % 4294967296) % 256)]) (ok := fun _ => True) (okp := fun _ => True) ?hr ?hp (fun _ hk => hk) trivial (Below.refl _ _) (Nat.le_refl _) (by simp) ?_; (case hd => rfl); (case hg => rfl); (case hr => first | (go_simp; done) | (go_simp; rfl)); (case hp => exact (Reps.one (show Kd.M (Kd.int .u8) _ _ _ (((48 + (Int.tmod x8_1 10)) % 4294967296) % 256) [.int .u8 (((48 + (Int.tmod x8_1 10)) % 4294967296) % 256)] from rfl) (Reps.none _ _))); intro v199 w87 ho88 hb hg_ hnew_; clear hg_ hnew_; (first | rw [← Ny198.out] at ho88 | (simp only [Int.reduceToNat] at ho88; rw [← Ny198.out] at ho88)); have n0_ := Aside0.mk (Kd.R_lower ho88 (below_size (by repeat (first | (with_reducible first | exact HB.out | apply below_alloc | apply pw_below_drewN | apply below_drew1) | exact HB.out)))); have n1_ := Aside0.mk (below_step (by repeat (first | (with_reducible first | exact HB.out | apply below_alloc | apply pw_below_drewN | apply below_drew1) | exact HB.out)) hb); clear HB; have HO200 := n0_; have HB := n1_; clear n0_ n1_; clear hb ho88; have hcv89 := own_string (P := Tryz.prog) Tryz.underlying33 Tryz.underlying5 Tryz.underlying9 (Kd.own_of_R HO200.out)) | ((with_reducible refine gate_callee (f := 14) rfl ?_); refine goesL_ (some 32) rfl rfl Tryz.func14 (by kernel_rfl) rfl #[.string ((strOfNums y198) ++ x7_1), .int .i64 (wrap64 (a1))] rfl (by (try simp only [List.map_toArray, List.map_cons, List.map_nil]); first | done | rfl | (simp only [List.length_drop, List.length_take]; rfl)) ?_; (with_reducible refine (feed_Retry.calls ((strOfNums y198) ++ x7_1) (wrap64 (a1)) t201 t202 _ ?side1 A6.out).mono ?_); (case side1 => exact HG.out.below (by repeat (first | (with_reducible first | exact HB.out | apply below_alloc | apply pw_below_drewN | apply below_drew1) | exact HB.out))); rintro e w90 ⟨rfl, hb⟩; refine ⟨_, rfl, ?_⟩; have n0_ := Aside0.mk (Kd.R_below (by (with_reducible repeat (first | apply Kd.R_alloc | apply Kd.R_drewN | apply Kd.R_drew)); exact HO200.out) hb); have n1_ := Aside0.mk (below_step (by repeat (first | (with_reducible first | exact HB.out | apply below_alloc | apply pw_below_drewN | apply below_drew1) | exact HB.out)) hb); clear HO200; clear HB; have HO200 := n0_; have HB := n1_; clear n0_ n1_; (try clear hb); (try clear hb2); (try clear hk); (try clear hi)) | ((with_reducible refine gate_callee (f := 14) rfl ?_); refine goesL_ (some 42) rfl rfl Tryz.func14 (by kernel_rfl) rfl #[.string ((strOfNums y198) ++ x7_1), .int .i64 (wrap64 ((wrap64 (a1)) + (wrap64 (a2))))] rfl (by (try simp only [List.map_toArray, List.map_cons, List.map_nil]); first | done | rfl | (simp only [List.length_drop, List.length_take]; rfl)) ?_; (with_reducible refine (feed_Retry.calls ((strOfNums y198) ++ x7_1) (wrap64 ((wrap64 (a1)) + (wrap64 (a2)))) t203 t204 _ ?side1 A7.out).mono ?_); (case side1 => exact HG.out.below (by repeat (first | (with_reducible first | exact HB.out | apply below_alloc | apply pw_below_drewN | apply below_drew1) | exact HB.out))); rintro e w91 ⟨rfl, hb⟩; refine ⟨_, rfl, ?_⟩; have n0_ := Aside0.mk (Kd.R_below (by (with_reducible repeat (first | apply Kd.R_alloc | apply Kd.R_drewN | apply Kd.R_drew)); exact HO200.out) hb); have n1_ := Aside0.mk (below_step (by repeat (first | (with_reducible first | exact HB.out | apply below_alloc | apply pw_below_drewN | apply below_drew1) | exact HB.out)) hb); clear HO200; clear HB; have HO200 := n0_; have HB := n1_; clear n0_ n1_; (try clear hb); (try clear hb2); (try clear hk); (try clear hi)) | ((with_reducible refine gate_dst (N := 49) rfl ?_); refine Kd.R_lit k36 _ 36 ?hg (N := 49) ?hd (xs := ([(⟨(⟨#[120, 45, 114, 97, 116, 101, 108, 105, 109, 105, 116, 45, 114, 101, 109, 97, 105, 110, 105, 110, 103]⟩ : ByteArray), (⟨#[48]⟩ : ByteArray)⟩ : S36), (⟨(⟨#[88, 45, 82, 65, 84, 69, 76, 73, 77, 73, 84, 45, 82, 69, 83, 69, 84]⟩ : ByteArray), (strOfNums y198) ++ x7_1⟩ : S36)] : List (S36))) (inner := [.string (⟨#[120, 45, 114, 97, 116, 101, 108, 105, 109, 105, 116, 45, 114, 101, 109, 97, 105, 110, 105, 110, 103]⟩ : ByteArray), .string (⟨#[48]⟩ : ByteArray), .string (⟨#[88, 45, 82, 65, 84, 69, 76, 73, 77, 73, 84, 45, 82, 69, 83, 69, 84]⟩ : ByteArray), .string ((strOfNums y198) ++ x7_1)]) (ok := fun _ => True) (okp := fun _ => True) ?hr ?hp (fun _ hk => hk) trivial (Below.refl _ _) (Nat.le_refl _) (by simp) ?_; (case hd => rfl); (case hg => rfl); (case hr => first | (go_simp; done) | (go_simp; rfl)); (case hp => exact (Reps.c2 (show Kd.M k36 _ _ _ (⟨(⟨#[120, 45, 114, 97, 116, 101, 108, 105, 109, 105, 116, 45, 114, 101, 109, 97, 105, 110, 105, 110, 103]⟩ : ByteArray), (⟨#[48]⟩ : ByteArray)⟩ : S36) [.string (⟨#[120, 45, 114, 97, 116, 101, 108, 105, 109, 105, 116, 45, 114, 101, 109, 97, 105, 110, 105, 110, 103]⟩ : ByteArray), .string (⟨#[48]⟩ : ByteArray)] from (k36_mkM _ _ _ (⟨(⟨#[120, 45, 114, 97, 116, 101, 108, 105, 109, 105, 116, 45, 114, 101, 109, 97, 105, 110, 105, 110, 103]⟩ : ByteArray), (⟨#[48]⟩ : ByteArray)⟩ : S36) )) (Reps.c2 (show Kd.M k36 _ _ _ (⟨(⟨#[88, 45, 82, 65, 84, 69, 76, 73, 77, 73, 84, 45, 82, 69, 83, 69, 84]⟩ : ByteArray), (strOfNums y198) ++ x7_1⟩ : S36) [.string (⟨#[88, 45, 82, 65, 84, 69, 76, 73, 77, 73, 84, 45, 82, 69, 83, 69, 84]⟩ : ByteArray), .string ((strOfNums y198) ++ x7_1)] from (k36_mkM _ _ _ (⟨(⟨#[88, 45, 82, 65, 84, 69, 76, 73, 77, 73, 84, 45, 82, 69, 83, 69, 84]⟩ : ByteArray), (strOfNums y198) ++ x7_1⟩ : S36) )) (Reps.none _ _)))); intro v206 w92 ho93 hb hg_ hnew_; clear hg_ hnew_; (first | rw [← Ny205.out] at ho93 | (simp only [Int.reduceToNat] at ho93; rw [← Ny205.out] at ho93)); have n0_ := Aside0.mk (Kd.R_below (by (with_reducible repeat (first | apply Kd.R_alloc | apply Kd.R_drewN | apply Kd.R_drew)); exact HO200.out) hb); have n1_ := Aside0.mk (Kd.R_lower ho93 (below_size (by repeat (first | (with_reducible first | exact HB.out | apply below_alloc | apply pw_below_drewN | apply below_drew1) | exact HB.out)))); have n2_ := Aside0.mk (below_step (by repeat (first | (with_reducible first | exact HB.out | apply below_alloc | apply pw_below_drewN | apply below_drew1) | exact HB.out)) hb); clear HO200; clear HB; have HO200 := n0_; have HO207 := n1_; have HB := n2_; clear n0_ n1_ n2_; clear hb ho93; obtain ⟨Ao94, co94, eo94⟩ := Kd.R_slice HO207.out; subst eo94) | ((with_reducible refine gate_callee (f := 10) rfl ?_); refine goesL_ (some 52) rfl rfl Tryz.func10 (by kernel_rfl) rfl #[.slice Ao94 y205.length co94, .int .i64 (wrap64 (a1))] rfl (by (try simp only [List.map_toArray, List.map_cons, List.map_nil]); first | done | rfl | (simp only [List.length_drop, List.length_take]; rfl)) ?_; (with_reducible refine (feed_Reset.calls k1 _ _ y205 (wrap64 (a1)) t208 t209 _ ?side3 ?side1 ?side2 A8.out).mono ?_); (case side1 => repeat (first | exact (Kd.R_reads' HO207.out).2.2 | (with_reducible refine Kd.C_alloc ?_ _) | (with_reducible refine Kd.C_drewN ?_ _) | (with_reducible refine Kd.C_drew ?_))); (case side2 => exact (Kd.R_reads' HO207.out).2.1); (case side3 => exact HG.out.below (by repeat (first | (with_reducible first | exact HB.out | apply below_alloc | apply pw_below_drewN | apply below_drew1) | exact HB.out))); rintro e w95 ⟨rfl, hb⟩; refine ⟨_, rfl, ?_⟩; have n0_ := Aside0.mk (Kd.R_below (by (with_reducible repeat (first | apply Kd.R_alloc | apply Kd.R_drewN | apply Kd.R_drew)); exact HO200.out) hb); have n1_ := Aside0.mk (Kd.R_below (by (with_reducible repeat (first | apply Kd.R_alloc | apply Kd.R_drewN | apply Kd.R_drew)); exact HO207.out) hb); have n2_ := Aside0.mk (below_step (by repeat (first | (with_reducible first | exact HB.out | apply below_alloc | apply pw_below_drewN | apply below_drew1) | exact HB.out)) hb); clear HO200; clear HO207; clear HB; have HO200 := n0_; have HO207 := n1_; have HB := n2_; clear n0_ n1_ n2_; (try clear hb); (try clear hb2); (try clear hk); (try clear hi)) | ((with_reducible refine gate_callee (f := 9) rfl ?_); refine goesL_ (some 55) rfl rfl Tryz.func9 (by kernel_rfl) rfl #[] rfl (by (try simp only [List.map_toArray, List.map_cons, List.map_nil]); first | done | rfl | (simp only [List.length_drop, List.length_take]; rfl)) ?_; (with_reducible refine (decorumlaw08_awake.calls k1  false _ ?side1 A9.out).mono ?_); (case side1 => exact HG.out.below (by repeat (first | (with_reducible first | exact HB.out | apply below_alloc | apply pw_below_drewN | apply below_drew1) | exact HB.out))); rintro e w96 ⟨rfl, hb⟩; refine ⟨_, rfl, ?_⟩; have n0_ := Aside0.mk (Kd.R_below (by (with_reducible repeat (first | apply Kd.R_alloc | apply Kd.R_drewN | apply Kd.R_drew)); exact HO200.out) hb); have n1_ := Aside0.mk (Kd.R_below (by (with_reducible repeat (first | apply Kd.R_alloc | apply Kd.R_drewN | apply Kd.R_drew)); exact HO207.out) hb); have n2_ := Aside0.mk (below_step (by repeat (first | (with_reducible first | exact HB.out | apply below_alloc | apply pw_below_drewN | apply below_drew1) | exact HB.out)) hb); clear HO200; clear HO207; clear HB; have HO200 := n0_; have HO207 := n1_; have HB := n2_; clear n0_ n1_ n2_; (try clear hb); (try clear hb2); (try clear hk); (try clear hi)))
            go_ret
            exact ⟨by first | rfl | (simp [errW_none, errW_some] <;> rfl) | (simp [*, errW_none, errW_some] <;> rfl), by repeat (first | (with_reducible first | exact HB.out | apply below_alloc | apply pw_below_drewN | apply below_drew1) | exact HB.out)⟩
        · rw [if_neg c5] at H
          have c5b0 : decide (x8_1 < 10) = false := decide_eq_false c5
          clear c5
          have H' := Aside0.mk H
          clear H
          go_wp2_with (first | ((with_reducible refine gate_dst (N := 22) rfl ?_); refine Kd.R_lit (Kd.int .u8) _ 5 ?hg (N := 22) ?hd (xs := ([((48 + (Int.tmod x8_1 10)) % 4294967296) % 256] : List Int)) (inner := [.int .u8 (((48 + (Int.tmod x8_1 10)) % 4294967296) % 256)]) (ok := fun _ => True) (okp := fun _ => True) ?hr ?hp (fun _ hk => hk) trivial (Below.refl _ _) (Nat.le_refl _) (by simp) ?_; (case hd => rfl); (case hg => rfl); (case hr => first | (go_simp; done) | (go_simp; rfl)); (case hp => exact (Reps.one (show Kd.M (Kd.int .u8) _ _ _ (((48 + (Int.tmod x8_1 10)) % 4294967296) % 256) [.int .u8 (((48 + (Int.tmod x8_1 10)) % 4294967296) % 256)] from rfl) (Reps.none _ _))); intro v199 w97 ho98 hb hg_ hnew_; clear hg_ hnew_; (first | rw [← Ny198.out] at ho98 | (simp only [Int.reduceToNat] at ho98; rw [← Ny198.out] at ho98)); have n0_ := Aside0.mk (Kd.R_lower ho98 (below_size (by repeat (first | (with_reducible first | exact HB.out | apply below_alloc | apply pw_below_drewN | apply below_drew1) | exact HB.out)))); have n1_ := Aside0.mk (below_step (by repeat (first | (with_reducible first | exact HB.out | apply below_alloc | apply pw_below_drewN | apply below_drew1) | exact HB.out)) hb); clear HB; have HO200 := n0_; have HB := n1_; clear n0_ n1_; clear hb ho98; have hcv99 := own_string (P := Tryz.prog) Tryz.underlying33 Tryz.underlying5 Tryz.underlying9 (Kd.own_of_R HO200.out)))
          go_roundg k1
          case measure => have := HK1.out; omega
          case rel => exact ⟨((strOfNums y198) ++ x7_1), ((Int.tdiv x8_1 10) % 4294967296), (by first | rfl | (simp; done) | (simp [*]; done)), (by first | rfl | (simp; done) | (simp [*]; done)), H', ⟨by have := HK1.out; omega⟩, ⟨by repeat (first | (with_reducible first | exact HB.out | apply below_alloc | apply pw_below_drewN | apply below_drew1) | exact HB.out)⟩⟩
      · rw [if_neg c4] at H
        exact absurd H (by simp)

-- NOT PRINTED: function 6 (decorumlaw08_FeedOrder)

/-! ### decorumref07_moment: function 21 -/
def decorumref07_moment.f (a0 : Int) : Option (Int) := if a0 < 0 then (some 0) else (if a0 > 1099511627776 then (some 1099511627776) else (some a0))
set_option maxHeartbeats 8000000 in
set_option maxRecDepth 100000 in
theorem decorumref07_moment.calls (a0 : Int) (r : Int) (w : World) (h : decorumref07_moment.f a0 = some r) :
    Calls Tryz.prog 21 #[.int .i64 a0] w fun e w' => e = .returned (.int .i64 r) ∧ Drawn0 w w' := by
  have H : (if a0 < 0 then (some 0) else (if a0 > 1099511627776 then (some 1099511627776) else (some a0))) = some r := h
  clear h
  by_cases c2 : a0 < 0
  · rw [if_pos c2] at H
    have c2b0 : decide (a0 < 0) = true := decide_eq_true c2
    clear c2
    obtain rfl := Option.some.inj H
    go_enter Tryz.func21, Tryz.ntmps21
    go_wp2
    go_ret
    exact ⟨by first | rfl | (simp; done) | (simp [*]; done), by repeat (first | exact Drawn0.refl _ | apply Drawn0.step)⟩
  · rw [if_neg c2] at H
    have c2b0 : decide (a0 < 0) = false := decide_eq_false c2
    clear c2
    by_cases c3 : a0 > 1099511627776
    · rw [if_pos c3] at H
      have c3b0 : decide (1099511627776 < a0) = true := decide_eq_true c3
      clear c3
      obtain rfl := Option.some.inj H
      go_enter Tryz.func21, Tryz.ntmps21
      go_wp2
      go_ret
      exact ⟨by first | rfl | (simp; done) | (simp [*]; done), by repeat (first | exact Drawn0.refl _ | apply Drawn0.step)⟩
    · rw [if_neg c3] at H
      have c3b0 : decide (1099511627776 < a0) = false := decide_eq_false c3
      clear c3
      obtain rfl := Option.some.inj H
      go_enter Tryz.func21, Tryz.ntmps21
      go_wp2
      go_ret
      exact ⟨by first | rfl | (simp; done) | (simp [*]; done), by repeat (first | exact Drawn0.refl _ | apply Drawn0.step)⟩

end
end Go.Proofs.YtelgjeeleofgoaaGreatDoor.PF

/- FeedLater, in plain words. -/
namespace Go.Proofs.YtelgjeeleofgoaaGreatDoor
open Go.RowKit Go.Proofs.YtelgjeeleofgoaaGreatDoorW.PrintWords PF
set_option linter.unusedVariables false

theorem bs_app (a b : Bs) : bs a ++ bs b = bs (a ++ b) := by
  have : (bs a ++ bs b).data = (bs (a ++ b)).data := by
    rw [ByteArray.data_append]
    simp [bs]
  cases h1 : bs a ++ bs b
  cases h2 : bs (a ++ b)
  rw [h1, h2] at this
  simp only at this
  rw [this]
theorem dw_none {p : UInt8 → Bool} {l : Bs} (h : ∀ c ∈ l, p c = false) : l.dropWhile p = l := by
  cases l with
  | nil => rfl
  | cons c r => rw [List.dropWhile_cons, h c (by simp)]; simp
theorem trim_same {t cs : Bs} (h : ∀ c ∈ t, cs.contains c = false) : Lib.trimS t cs = t := by
  unfold Lib.trimS Lib.trimRightS Lib.trimLeftS
  have h1 : t.reverse.dropWhile (fun x => cs.contains x) = t.reverse := dw_none fun c hc => h c (List.mem_reverse.1 hc)
  rw [h1, List.reverse_reverse]
  exact dw_none h
theorem digs_mem {t : Bs} (h : digs t = true) : ∀ c ∈ t, 48 ≤ c.toNat ∧ c.toNat ≤ 57 := by
  intro c hc
  have := List.all_eq_true.1 h c hc
  unfold dig at this
  exact of_decide_eq_true this
theorem trim_digs {t : Bs} (h : digs t = true) (hl : t.length < 1000000) : strings_Trim.f (bs t) (⟨#[32, 9]⟩ : ByteArray) = some (bs t) := by
  unfold strings_Trim.f
  have hs : (bs t).size = t.length := by simp [bs, ByteArray.size]
  rw [if_pos ⟨by omega, by decide, by decide⟩]
  have e1 : (bs t).data.toList = t := by simp [bs]
  rw [e1]
  have e2 : Lib.trimS t (⟨#[32, 9]⟩ : ByteArray).data.toList = t := by
    refine trim_same fun c hc => ?_
    have := digs_mem h c hc
    show [(32 : UInt8), 9].contains c = false
    simp only [List.contains_cons, List.contains_nil, Bool.or_false, Bool.or_eq_false_iff, beq_eq_false_iff_ne]
    exact ⟨fun e => by subst e; simp at this, fun e => by subst e; simp at this⟩
  rw [e2]
  rfl
theorem fdig_digs {t : Bs} (h : digs t = true) (hne : t ≠ []) (hl : t.length < 1000000) : feed_digits.f (bs t) = some (maxI (numv t), true) := by
  have hs : (bs t).size = t.length := by simp [bs, ByteArray.size]
  have e1 : (bs t).data.toList = t := by simp [bs]
  rw [fdig_ok _ (by omega)]
  unfold digitsM
  rw [e1, if_pos ⟨h, hne⟩]
  rfl
theorem maxI_nn {t : Bs} (h : digs t = true) : 0 ≤ maxI (numv t) := by
  have := numv_nat t h
  unfold maxI
  split <;> omega
theorem clock_id (a : Int) (h0 : 0 ≤ a) (h1 : a ≤ 1099511627776) : mx 0 (mn a 1099511627776) = a := by unfold mx mn; (repeat' split) <;> omega
theorem retry_digs {t : Bs} (h : digs t = true) (hne : t ≠ []) (hl : t.length < 1000000) (a : Int) (h0 : 0 ≤ a) (h1 : a ≤ 1099511627776) :
    feed_Retry.f (bs t) a = feed_later.f a (maxI (numv t)) := by
  unfold feed_Retry.f feed_clock.f
  rw [trim_digs h hl]
  simp only [Option.bind_some]
  rw [fdig_digs h hne hl]
  simp only [Option.bind_some, if_true]
  rw [clock_id a h0 h1]
  cases feed_later.f a (maxI (numv t)) with
  | none => rfl
  | some x => rfl
theorem same_up {a b : ByteArray} {r : Bool} {k : Nat} (hk : 40 ≤ k) (e : feed_same.f 40 a b = some r) : feed_same.f k a b = some r := at_rounds (feed_same.mono a b) hk e
theorem value_two (h1 h2 : Hd) (key : ByteArray) (k : Nat) (hk : 50 ≤ k) (r1 r2 : Bool) (e1 : feed_same.f 40 h1.f0 key = some r1) (e2 : feed_same.f 40 h2.f0 key = some r2) :
    feed_value.f k [h1, h2] key = (if r2 = true then (strings_Trim.f h2.f1 (⟨#[32, 9]⟩ : ByteArray)).bind fun t => some (t, true) else if r1 = true then (strings_Trim.f h1.f1 (⟨#[32, 9]⟩ : ByteArray)).bind fun t => some (t, true) else some (⟨#[]⟩, false)) := by
  obtain ⟨k', rfl⟩ : ∃ k', k = k' + 3 := ⟨k - 3, by omega⟩
  have w1 : wrap64 ((([h1, h2] : List Hd).length : Int) - 1) = 1 := by rw [w64 _ (by simp) (by simp)]; rfl
  have w2 : wrap64 ((1 : Int) - 1) = 0 := by rw [w64 _ (by omega) (by omega)]; rfl
  have w3 : wrap64 ((0 : Int) - 1) = -1 := by rw [w64 _ (by omega) (by omega)]; rfl
  have x1 : rd_T36 [h1, h2] 1 = h2 := rfl
  have x0 : rd_T36 [h1, h2] 0 = h1 := rfl
  unfold feed_value.f
  rw [w1]
  simp only [feed_value.l0, x1, x0, w2, w3]
  rw [same_up (k := k' + 2) (by omega) e2, same_up (k := k' + 1) (by omega) e1]
  cases r2 <;> cases r1 <;> simp
def nRem : ByteArray := ⟨#[120, 45, 114, 97, 116, 101, 108, 105, 109, 105, 116, 45, 114, 101, 109, 97, 105, 110, 105, 110, 103]⟩
def nRes : ByteArray := ⟨#[88, 45, 82, 65, 84, 69, 76, 73, 77, 73, 84, 45, 82, 69, 83, 69, 84]⟩
def bZero : ByteArray := ⟨#[48]⟩
theorem reset_digs {t : Bs} (h : digs t = true) (hne : t ≠ []) (hl : t.length < 1000000) (a : Int) (h0 : 0 ≤ a) (h1 : a ≤ 1099511627776) (k : Nat) (hk : 60 ≤ k) :
    feed_Reset.f k [(⟨nRem, bZero⟩ : Hd), ⟨nRes, bs t⟩] a = feed_later.f a (maxI (numv t)) := by
  obtain ⟨k', rfl⟩ : ∃ k', k = k' + 1 := ⟨k - 1, by omega⟩
  have s1 : feed_same.f 40 nRem (⟨#[82, 97, 116, 101, 76, 105, 109, 105, 116]⟩ : ByteArray) = some false := by kernel_rfl
  have s2 : feed_same.f 40 nRes (⟨#[82, 97, 116, 101, 76, 105, 109, 105, 116]⟩ : ByteArray) = some false := by kernel_rfl
  have s3 : feed_same.f 40 nRem (⟨#[88, 45, 82, 97, 116, 101, 76, 105, 109, 105, 116, 45, 82, 101, 109, 97, 105, 110, 105, 110, 103]⟩ : ByteArray) = some true := by kernel_rfl
  have s4 : feed_same.f 40 nRes (⟨#[88, 45, 82, 97, 116, 101, 76, 105, 109, 105, 116, 45, 82, 101, 109, 97, 105, 110, 105, 110, 103]⟩ : ByteArray) = some false := by kernel_rfl
  have s5 : feed_same.f 40 nRem (⟨#[88, 45, 82, 97, 116, 101, 76, 105, 109, 105, 116, 45, 82, 101, 115, 101, 116]⟩ : ByteArray) = some false := by kernel_rfl
  have s6 : feed_same.f 40 nRes (⟨#[88, 45, 82, 97, 116, 101, 76, 105, 109, 105, 116, 45, 82, 101, 115, 101, 116]⟩ : ByteArray) = some true := by kernel_rfl
  have z1 : strings_Trim.f bZero (⟨#[32, 9]⟩ : ByteArray) = some bZero := by kernel_rfl
  have z2 : feed_digits.f bZero = some (0, true) := by kernel_rfl
  unfold feed_Reset.f feed_clock.f
  simp only [Option.bind_some]
  rw [clock_id a h0 h1, value_two _ _ _ (k' + 1) (by omega) _ _ s1 s2]
  simp only [Option.bind_some, Bool.false_eq_true, if_false, feed_Reset.j0, feed_elder.f]
  rw [value_two _ _ _ k' (by omega) _ _ s3 s4, value_two _ _ _ k' (by omega) _ _ s5 s6]
  simp only [Option.bind_some, Bool.false_eq_true, if_false, if_true, z1, z2]
  rw [trim_digs h hl]
  simp only [Option.bind_some, z2]
  rw [fdig_digs h hne hl]
  simp only [Option.bind_some, if_true]
  cases feed_later.f a (maxI (numv t)) with
  | none => simp
  | some x => simp
theorem later_eq (a s : Int) (hs : 0 ≤ s) : feed_later.f a s = some (mn (tadd a (tmul s 1000)) 1099511627776, true) := by
  unfold feed_later.f
  rw [if_neg (by omega)]
  rfl
theorem tmul_hi (a b : Int) : tmul a b ≤ 4611686018427387903 := by
  unfold tmul
  simp only
  (repeat' split) <;> omega
theorem tadd_ge (a t : Int) (ha : 0 ≤ a) (ha1 : a ≤ 1099511627776) (ht : 0 ≤ t) : a ≤ tadd a t := by
  unfold tadd held
  (repeat' split) <;> omega
theorem tadd_mono (a b t : Int) (h : a ≤ b) : tadd a t ≤ tadd b t := by
  unfold tadd held
  (repeat' split) <;> omega
theorem mn_mono (a b c : Int) (h : a ≤ b) : mn a c ≤ mn b c := by unfold mn; (repeat' split) <;> omega
/-- The end of the digits' loop. -/
theorem later_end (now more : Int) (t : Bs) (h : digs t = true) (hne : t ≠ []) (hl : t.length < 1000000) (n0 : 0 ≤ now) (n1 : now < 4294967296) (m0 : 0 ≤ more) (m1 : more < 4294967296) (k : Nat) (hk : 100 ≤ k) :
    ((feed_Retry.f (bs t) (wrap64 now)).bind fun bt201 => ((feed_Retry.f (bs t) (wrap64 ((wrap64 now) + (wrap64 more)))).bind fun bt203 => ((feed_Reset.f k [(⟨nRem, bZero⟩ : Hd), ⟨nRes, bs t⟩] (wrap64 now)).bind fun bt208 => ((decorumlaw08_awake.f k).bind fun t210 =>
      (if t210 = true then (if bt201.2 = true then (if bt203.2 = true then (if bt208.2 = true then (if bt201.1 = bt208.1 then (if bt201.1 ≥ (wrap64 now) then (if bt201.1 ≤ 1099511627776 then (some (decide (bt203.1 ≥ bt201.1))) else (some false)) else (some false)) else (some false)) else (some false)) else (some false)) else (some false)) else (some false)))))) = some true := by
  rw [w64 now (by omega) (by omega), w64 more (by omega) (by omega), w64 (now + more) (by omega) (by omega)]
  have hs := maxI_nn h
  rw [retry_digs h hne hl now n0 (by omega), retry_digs h hne hl (now + more) (by omega) (by omega), reset_digs h hne hl now n0 (by omega) k (by omega), later_eq _ _ hs, later_eq _ _ hs, awake_up k (by omega)]
  have ht := tmul_nn (maxI (numv t)) 1000 hs (by omega)
  have g1 := tadd_ge now _ n0 (by omega) ht
  have g2 := mn_bd (tadd now (tmul (maxI (numv t)) 1000)) 1099511627776 (by omega) (by omega)
  have g3 : now ≤ mn (tadd now (tmul (maxI (numv t)) 1000)) 1099511627776 := by unfold mn; split <;> omega
  have g4 := mn_mono _ _ 1099511627776 (tadd_mono now (now + more) (tmul (maxI (numv t)) 1000) (by omega))
  simp only [Option.bind_some, if_true]
  rw [if_pos g3, if_pos g2.2]
  simp [g4]
theorem sn_one (c : UInt8) (z : Int) (h : z = c.toNat) : strOfNums [z] = bs [c] := by
  unfold strOfNums bs
  simp [h]
theorem later_l0 (K : Nat) (hK : 100 ≤ K) (now more : Int) (n0 : 0 ≤ now) (n1 : now < 4294967296) (m0 : 0 ≤ more) (m1 : more < 4294967296) : ∀ (m n : Nat) (d : Bs), n < 10 ^ (m + 1) → n < 4294967296 → digs d = true → d.length + m < 1000 →
    decorumlaw08_FeedLater.l0 (m + 1 + K) now more (bs d) n = some true := by
  intro m
  induction m with
  | zero =>
    intro n d hn hn32 hd hl
    obtain ⟨c, hc⟩ : ∃ c : UInt8, c.toNat = 48 + n % 10 := ⟨UInt8.ofNat (48 + n % 10), by simp; omega⟩
    have hz : ((48 + (Int.tmod (n : Int) 10)) % 4294967296) % 256 = (c.toNat : Int) := by
      rw [hc, Int.tmod_eq_emod_of_nonneg (by omega)]
      omega
    have hsz : (bs [c]).size = 1 := by simp [bs, ByteArray.size]
    have hsd : (bs d).size = d.length := by simp [bs, ByteArray.size]
    have e : 0 + 1 + K = K + 1 := by omega
    rw [e]
    simp only [decorumlaw08_FeedLater.l0, Option.bind_some]
    rw [sn_one c _ hz, if_pos (by omega), if_pos (by simp at hn; omega), bs_app]
    have hdt : digs ([c] ++ d) = true := by
      unfold digs at *
      simp only [List.cons_append, List.nil_append, List.all_cons, hd, Bool.and_true]
      unfold dig
      exact decide_eq_true (by omega)
    exact later_end now more _ hdt (by simp) (by simp; omega) n0 n1 m0 m1 K (by omega)
  | succ m ih =>
    intro n d hn hn32 hd hl
    obtain ⟨c, hc⟩ : ∃ c : UInt8, c.toNat = 48 + n % 10 := ⟨UInt8.ofNat (48 + n % 10), by simp; omega⟩
    have hz : ((48 + (Int.tmod (n : Int) 10)) % 4294967296) % 256 = (c.toNat : Int) := by
      rw [hc, Int.tmod_eq_emod_of_nonneg (by omega)]
      omega
    have hsz : (bs [c]).size = 1 := by simp [bs, ByteArray.size]
    have hsd : (bs d).size = d.length := by simp [bs, ByteArray.size]
    obtain ⟨K', hK'⟩ : ∃ K', K' = m + 1 + K := ⟨_, rfl⟩
    have e : m + 1 + 1 + K = K' + 1 := by omega
    rw [e]
    simp only [decorumlaw08_FeedLater.l0, Option.bind_some]
    rw [sn_one c _ hz, if_pos (by omega), bs_app]
    have hdt : digs ([c] ++ d) = true := by
      unfold digs at *
      simp only [List.cons_append, List.nil_append, List.all_cons, hd, Bool.and_true]
      unfold dig
      exact decide_eq_true (by omega)
    by_cases h10 : n < 10
    · rw [if_pos (by omega)]
      exact later_end now more _ hdt (by simp) (by simp; omega) n0 n1 m0 m1 K' (by omega)
    · rw [if_neg (by omega)]
      have e2 : (Int.tdiv (n : Int) 10) % 4294967296 = ((n / 10 : Nat) : Int) := by
        rw [Int.tdiv_eq_ediv_of_nonneg (by omega)]
        omega
      rw [e2, hK']
      refine ih (n / 10) ([c] ++ d) ?_ (by omega) hdt (by simp; omega)
      have : 10 ^ (m + 1 + 1) = 10 * 10 ^ (m + 1) := by rw [Nat.pow_succ]; omega
      omega
theorem later_true (sec now more : Int) (s0 : 0 ≤ sec) (s1 : sec < 4294967296) (n0 : 0 ≤ now) (n1 : now < 4294967296) (m0 : 0 ≤ more) (m1 : more < 4294967296) : decorumlaw08_FeedLater.f (10 + 1 + 300) sec now more = some true := by
  obtain ⟨n, rfl⟩ : ∃ n : Nat, sec = n := ⟨sec.toNat, by omega⟩
  exact later_l0 300 (by omega) now more n0 n1 m0 m1 10 n [] (by omega) (by omega) rfl (by simp)
end Go.Proofs.YtelgjeeleofgoaaGreatDoor


namespace Go.Proofs.YtelgjeeleofgoaaGreatDoor.feedLater
open Go.ChangeShapes Go.WideShapes Go.ChangeAt Go.RowKit Go.Proofs.YtelgjeeleofgoaaGreatDoorW.PrintWords PF
set_option linter.unusedVariables false

theorem own : ownKnob Tryz.prog.godebug = none := by kernel_rfl
set_option maxRecDepth 100000 in
theorem contract (H : Type) (enc : TypeId × Value → H) (W : World) (base : Nat) (args : Array Value) (ds gs : List (DataW H)) (before : List MemPlace)
    (hval : ∀ (j : Nat) t v, Tryz.f5.params[j]? = some t → args[j]? = some v → Value.okWide Tryz.prog W .any base t v)
    (hW : DataW.Whole enc Tryz.prog Tryz.f5.params.toList Rows.feedLaterSpec.vars false W args.toList ds gs before) (hG : Glob W) :
    Calls Tryz.prog 5 args W fun e W' => ∃ v, e = .returned v ∧ Rows.feedLaterSpec.post enc Tryz.prog Tryz.f5 false true false false W args v W' := by
  have hW' := hW
  obtain ⟨p, q, hA0, hV, rfl, hfz, hnd⟩ := hW
  have hA : DataW.TrodAll enc Tryz.prog W 0 (fun _ => true) true Tryz.f5.params.toList args.toList ds p := hA0
  rw [Tryz.params5] at hA hval
  obtain ⟨v0, vs0, d0, ds0, p0, q0, hargs, rfl, rfl, h0, r0⟩ := trodAll_cons hA
  obtain ⟨v1, vs1, d1, ds1, p1, q1, rfl, rfl, rfl, h1, r1⟩ := trodAll_cons r0
  obtain ⟨v2, vs2, d2, ds2, p2, q2, rfl, rfl, rfl, h2, r2⟩ := trodAll_cons r1
  obtain ⟨rfl, rfl, rfl⟩ := trodAll_nil r2
  obtain rfl : args = #[v0, v1, v2] := by cases args; simp_all
  obtain ⟨rfl, rfl⟩ := trodVars_none hV
  obtain ⟨a0, rfl, rfl, rfl, w0⟩ := open_int Tryz.underlying32 (hval 0 32 v0 rfl rfl) h0
  obtain ⟨a1, rfl, rfl, rfl, w1⟩ := open_int Tryz.underlying32 (hval 1 32 v1 rfl rfl) h1
  obtain ⟨a2, rfl, rfl, rfl, w2⟩ := open_int Tryz.underlying32 (hval 2 32 v2 rfl rfl) h2
  clear hA0 hval h0 h1 h2 r0 r1 r2
  have b0 := bounds_u32 w0
  have b1 := bounds_u32 w1
  have b2 := bounds_u32 w2
  refine (decorumlaw08_FeedLater.calls (10 + 1 + 300) a0 a1 a2 true W hG (later_true a0 a1 a2 b0.1 (by omega) b1.1 (by omega) b2.1 (by omega))).mono fun e W' ⟨he, bel⟩ => ?_
  subst he
  exact ⟨_, rfl, _, _, _, [], _, [], hW', trodAll_mk1 (shut_bool Tryz.underlying4 _), trodAll_cons_mk (shut_int Tryz.underlying32 w0) (trodAll_cons_mk (shut_int Tryz.underlying32 w1) (trodAll_cons_mk (shut_int Tryz.underlying32 w2) trodAll_mk0)), rfl, bel.frame _, fun h => by cases h⟩

theorem reads (os : Os) {H : Type} (enc : TypeId × Value → H) : ∃ places, DataW.whole enc Tryz.prog ((World.laidAll Tryz.prog os laidL).forCall (fun _ _ => 0) ⟨#[], #[.int .u32 0, .int .u32 0, .int .u32 0], []⟩).memory Tryz.f5.params.toList Rows.feedLaterSpec.vars false #[Value.int .u32 0, .int .u32 0, .int .u32 0].toList 8 =
    some ([.lit (.int .u32 0), .lit (.int .u32 0), .lit (.int .u32 0)], [], places) := ⟨[], by kernel_rfl⟩
theorem okw (os : Os) : Input.okWideB Tryz.checked.prog ((World.laidAll Tryz.prog os laidL).forCall (fun _ _ => 0) ⟨#[], #[.int .u32 0, .int .u32 0, .int .u32 0], []⟩) 5 ⟨#[], #[.int .u32 0, .int .u32 0, .int .u32 0], []⟩ = true := by kernel_rfl

set_option maxRecDepth 100000 in
theorem lifted (os : Os) (started : os.Started) (H : Type) (enc : TypeId × Value → H) (F : Stop.Interp) :
    ReturnsInHanded {} Tryz.checked os 5 .any ((OpenSpec.ofChange Rows.feedLaterSpec).preRow enc Tryz.prog Tryz.f5 Rows.feedLaterRow.domain false Rows.feedLaterRow.laid) (((OpenSpec.ofChange Rows.feedLaterSpec).at F).post enc Tryz.prog Tryz.f5 false true false false) := by
  obtain ⟨places, hx⟩ := reads os enc
  refine returnsInHanded_of_row (C := Tryz.checked) (s := OpenSpec.ofChange Rows.feedLaterSpec) own started (by kernel_rfl) Tryz.func5
    ⟨World.laidAll Tryz.prog os laidL, fun _ _ => 0, ⟨#[], #[.int .u32 0, .int .u32 0, .int .u32 0], []⟩, World.laidAll_os _ _ _, shaped_laid os _, (Input.okWide_of_okWideB (base := 0) (okw os)).1, (Input.okWide_of_okWideB (okw os)).2,
      OpenSpec.preRow_of_cond 8 hx (by kernel_rfl) (fun k hk => by cases hk) (by kernel_rfl) (met_laid os _), by
        simp only [Assume.holds]
        exact ⟨by simp, by simp, fun _ => Modest.zero, by simp, by simp⟩⟩ ?_
  intro W base args ds gs before hval hW _ _ _ hL hS _
  exact contract H enc W base args ds gs before hval hW (glob_of hL hS)

theorem said : Rows.FeedLaterSaid :=
  OpenClaim.holds_of_cond 5 Tryz.f5 rfl rfl rfl rfl rfl rfl rfl ⟨rfl, rfl, rfl, rfl, rfl⟩ rfl rfl rfl rfl rfl (by kernel_rfl) Tryz.func5 (by kernel_rfl)
    (of_decide_eq_true (by kernel_rfl)) (by unfold Func.isWrapper; first | (rw [if_pos (by decide +kernel)]; kernel_rfl) | (rw [if_neg (by decide +kernel)]; exact ⟨rfl, rfl⟩))
    (fun os started H enc _ F => by rw [OpenClaim.pre_eq_preRow]; exact lifted os started H enc F)
theorem plain (f : FuncId) (fn : Func) (hf : Tryz.pinned.checked.prog.funcNamed "decorum/decorumlaw08.FeedLater" = some f) (hfn : Tryz.pinned.checked.prog.funcs[f]? = some fn) :
    Rows.feedLaterCard.stood.looks = Tryz.pinned.checked.prog.looks [] ∧ ∀ (j : Nat) t, fn.params[j]? = some t → Tryz.pinned.checked.prog.wantsStandIn t = false := by
  obtain rfl : f = 5 := Option.some.inj ((show Tryz.prog.funcNamed "decorum/decorumlaw08.FeedLater" = some 5 by kernel_rfl).symm.trans hf) |>.symm
  obtain rfl : fn = Tryz.f5 := (Option.some.inj (Tryz.func5.symm.trans hfn)).symm
  refine ⟨by kernel_rfl, fun j t ht => ?_⟩
  rw [Tryz.params5] at ht
  have hm : t ∈ [32, 32, 32] := by simpa using Array.mem_of_getElem? ht
  have hall : ([32, 32, 32].all fun u => !Tryz.prog.wantsStandIn u) = true := by kernel_rfl
  exact (show Tryz.prog.wantsStandIn t = false by simpa using List.all_eq_true.1 hall t hm)
theorem card : Rows.FeedLaterCardSaid :=
  Claim7.holds_tied_plain_at .later [] _ _ _ _ said (fun _ h => by cases h) (by kernel_rfl) (fun _ h => by cases h) feedLater_row_tie rfl ⟨rfl, rfl⟩ (by kernel_rfl) rfl plain (by kernel_rfl)
end Go.Proofs.YtelgjeeleofgoaaGreatDoor.feedLater
namespace Go.Proofs.YtelgjeeleofgoaaGreatDoor
/-- The card, under a short name, for the claim. -/
theorem feedLater_full : Rows.FeedLaterCardSaid := feedLater.card
end Go.Proofs.YtelgjeeleofgoaaGreatDoor
