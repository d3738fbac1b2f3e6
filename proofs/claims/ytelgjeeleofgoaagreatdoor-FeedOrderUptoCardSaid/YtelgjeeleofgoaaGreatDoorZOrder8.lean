/- A part of the proof (see the last text): texts of the session and printed words, put together by a program of the session. -/
import Derived.Test.YtelgjeeleofgoaaGreatDoorZLater7
/- The fixed fact of layer 8. -/
namespace Go.Proofs.YtelgjeeleofgoaaGreatDoor
open Go.RowKit Go.Proofs.YtelgjeeleofgoaaGreatDoorW.PrintWords PF
set_option maxRecDepth 100000
def aw1 : ByteArray := ⟨#[83, 117, 110, 44, 32, 48, 54, 32, 78, 111, 118, 32, 49, 57, 57, 52, 32, 48, 56, 58, 52, 57, 58, 51, 55, 32, 71, 77, 84]⟩
theorem aw_retry : feed_Retry.f (⟨#[32, 49, 50, 48, 32]⟩ : ByteArray) 5000 = some (125000, true) := by kernel_rfl
theorem aw_first : (firstM aw1).bind gotM = some 784111777 := by kernel_rfl
theorem aw_parse (now : Int) : parseM aw1 now = some 784111777 := by
  have h := aw_first
  unfold parseM
  cases hf : firstM aw1 with
  | none => rw [hf] at h; cases h
  | some p => rw [hf] at h; exact h
theorem aw_reset : feed_Reset.f 40 (([(⟨(⟨#[82, 97, 116, 101, 76, 105, 109, 105, 116]⟩ : ByteArray), (⟨#[114, 101, 109, 97, 105, 110, 105, 110, 103, 61, 48, 44, 32, 114, 101, 115, 101, 116, 61, 55]⟩ : ByteArray)⟩ : S36)] : List (S36))) 1000 = some (8000, true) := by kernel_rfl
theorem aw_value : feed_value.f 40 [(⟨(⟨#[114, 101, 116, 114, 121, 45, 97, 102, 116, 101, 114]⟩ : ByteArray), aw1⟩ : S36)] (⟨#[82, 101, 116, 114, 121, 45, 65, 102, 116, 101, 114]⟩ : ByteArray) = some (aw1, true) := by kernel_rfl
theorem aw_reset0 : feed_Reset.f 40 [(⟨(⟨#[114, 101, 116, 114, 121, 45, 97, 102, 116, 101, 114]⟩ : ByteArray), aw1⟩ : S36)] 0 = some (0, false) := by kernel_rfl
theorem aw_trim : strings_Trim.f aw1 (⟨#[32, 9]⟩ : ByteArray) = some aw1 := by kernel_rfl
theorem aw_digits : feed_digits.f aw1 = some (0, false) := by kernel_rfl
theorem aw_date (now : Int) : date_Parse.f aw1 now = some (784111777, true) := by
  unfold date_Parse.f
  rw [aw_parse, if_pos (by decide)]
  rfl
theorem aw_retry1 : feed_Retry.f aw1 0 = some (784111777000, true) := by
  unfold feed_Retry.f
  rw [aw_trim]
  simp only [feed_clock.f, Option.bind_some, aw_digits, aw_date]
  kernel_rfl
theorem aw_from : feed_From.f 40 503 [(⟨(⟨#[114, 101, 116, 114, 121, 45, 97, 102, 116, 101, 114]⟩ : ByteArray), aw1⟩ : S36)] 0 = some (3, 784111777000, 0) := by
  unfold feed_From.f
  rw [aw_value, aw_reset0]
  simp only [Option.bind_some, aw_retry1]
  kernel_rfl
theorem awake_40 : decorumlaw08_awake.f 40 = some true := by
  unfold decorumlaw08_awake.f
  rw [aw_retry, aw_reset]
  have h := aw_from
  unfold aw1 at h
  rw [h]
  simp only [Option.bind_some, if_true]
  rfl
end Go.Proofs.YtelgjeeleofgoaaGreatDoor

/- What layer 8's functions answer, in plain words: no program in sight. All are total; the bounds of what is told. -/
namespace Go.Proofs.YtelgjeeleofgoaaGreatDoor
open Go.RowKit Go.Proofs.YtelgjeeleofgoaaGreatDoorW.PrintWords PF
set_option linter.unusedVariables false

theorem w64 (x : Int) (h0 : -9223372036854775808 ≤ x) (h1 : x ≤ 9223372036854775807) : wrap64 x = x := by
  unfold wrap64
  omega
abbrev Hd := S36
/-- Headers whose texts are short. -/
def Short (B : Nat) (l : List Hd) : Prop := ∀ h ∈ l, h.f0.size ≤ B ∧ h.f1.size ≤ B
theorem rd_mem {l : List Hd} {i : Int} (h0 : 0 ≤ i) (h1 : i < l.length) : rd_T36 l i ∈ l := by
  unfold rd_T36
  have hi : i.toNat < l.length := by omega
  rw [List.getD_eq_getElem?_getD, List.getElem?_eq_getElem hi]
  exact List.getElem_mem hi
theorem mem_rd {l : List Hd} {x : Hd} (h : x ∈ l) : ∃ i : Nat, i < l.length ∧ rd_T36 l i = x := by
  obtain ⟨i, hi, rfl⟩ := List.getElem_of_mem h
  refine ⟨i, hi, ?_⟩
  unfold rd_T36
  simp [hi]
/-- small: it answers; and what is small is short. -/
theorem small_l0 (l : List Hd) (hs : Short 1048576 l) : ∀ (k i : Nat) (n : Int), 10 * (i : Int) ≤ n → n ≤ 3000000 → 1 ≤ k → 301 ≤ k + i → (∀ j : Nat, j < i → j < l.length → (rd_T36 l j).f0.size ≤ n ∧ (rd_T36 l j).f1.size ≤ n) →
    ∃ b, decorumlaw08_small.l0 k l n i = some b ∧ (b = true → l.length ≤ 300 ∧ Short 3000 l)
  | 0, i, n, _, _, h1, _, _ => by omega
  | k + 1, i, n, h10, hn, h1, hk, hj => by
    simp only [decorumlaw08_small.l0]
    by_cases hi : (i : Int) < l.length
    · rw [if_pos hi]
      by_cases h3 : n < 3000
      · rw [if_pos h3, if_pos (by omega)]
        have hm := hs _ (rd_mem (i := (i : Int)) (by omega) hi)
        have e1 : wrap64 ((((rd_T36 l i).f0).size : Int) + (((rd_T36 l i).f1).size : Int)) = ((rd_T36 l i).f0.size : Int) + ((rd_T36 l i).f1.size : Int) := w64 _ (by omega) (by omega)
        rw [e1, w64 (((rd_T36 l i).f0.size : Int) + ((rd_T36 l i).f1.size : Int) + 10) (by omega) (by omega), w64 (n + _) (by omega) (by omega), w64 ((i : Int) + 1) (by omega) (by omega)]
        refine small_l0 l hs k (i + 1) _ (by push_cast; omega) (by omega) (by omega) (by omega) ?_
        intro j hji hjl
        by_cases hji' : j < i
        · have := hj j hji' hjl
          omega
        · have : j = i := by omega
          subst this
          omega
      · rw [if_neg h3]
        exact ⟨_, rfl, fun e => absurd (of_decide_eq_true e) h3⟩
    · rw [if_neg hi]
      refine ⟨_, rfl, fun e => ?_⟩
      have h3 := of_decide_eq_true e
      refine ⟨by omega, fun x hx => ?_⟩
      obtain ⟨j, hjl, rfl⟩ := mem_rd hx
      have := hj j (by omega) hjl
      omega
theorem small_ok (l : List Hd) (hs : Short 1048576 l) (k : Nat) (hk : 301 ≤ k) : ∃ b, decorumlaw08_small.f k l = some b ∧ (b = true → l.length ≤ 300 ∧ Short 3000 l) := by
  exact small_l0 l hs k 0 0 (by omega) (by omega) (by omega) (by omega) (fun j hj => by omega)
/-- same: it answers. -/
theorem same_l0 (a b : ByteArray) (n : Int) (ha : n = a.size) (hb : n = b.size) (hn : n < 9223372036854775807) : ∀ (k i : Nat), (i : Int) ≤ n → n + 1 ≤ k + i → ∃ r, feed_same.l0 k a b n i = some r
  | 0, i, h, hk => by omega
  | k + 1, i, h, hk => by
    simp only [feed_same.l0]
    by_cases hi : (i : Int) < n
    · rw [if_pos hi, if_pos (by omega), if_pos (by omega), if_pos (by omega), w64 ((i : Int) + 1) (by omega) (by omega)]
      have ih := same_l0 a b n ha hb hn k (i + 1) (by omega) (by omega)
      push_cast at ih
      (repeat' split)
      all_goals first | exact ih | exact ⟨_, rfl⟩
    · rw [if_neg hi]
      exact ⟨_, rfl⟩
theorem same_ok (a b : ByteArray) (k : Nat) (hb : b.size < k) (hB : b.size < 1000000000) : ∃ r, feed_same.f k a b = some r := by
  unfold feed_same.f
  split
  · rename_i h
    exact same_l0 a b _ rfl h (by omega) k 0 (by omega) (by omega)
  · exact ⟨_, rfl⟩
/-- value: it answers; what it finds is no longer than a header's text. -/
theorem value_l0 (l : List Hd) (key : ByteArray) (B : Nat) (hs : Short B l) (hB : B < 1000000000) (hl : l.length < 1000000000) (hkey : key.size < 1000) : ∀ (k n : Nat), n ≤ l.length → n + 1001 ≤ k →
    ∃ t b, feed_value.l0 k l key ((n : Int) - 1) = some (t, b) ∧ t.size ≤ B ∧ (b = false → t = ⟨#[]⟩)
  | 0, n, _, hk => by omega
  | k + 1, n, hn, hk => by
    simp only [feed_value.l0]
    cases n with
    | zero =>
      rw [if_neg (by omega)]
      exact ⟨_, _, rfl, by simp [ByteArray.size], fun _ => rfl⟩
    | succ n =>
      have e : ((n + 1 : Nat) : Int) - 1 = (n : Int) := by omega
      rw [e, if_pos (by omega), if_pos (by omega), if_pos (by omega)]
      obtain ⟨r, hr⟩ := same_ok (rd_T36 l n).f0 key k (by omega) (by omega)
      rw [hr]
      simp only [Option.bind_some]
      have hm := hs _ (rd_mem (l := l) (i := (n : Int)) (by omega) (by omega))
      cases r with
      | true =>
        simp only [if_true]
        unfold strings_Trim.f
        rw [if_pos ⟨by omega, by decide, by decide⟩]
        refine ⟨_, _, rfl, ?_, fun e => by cases e⟩
        have h1 := FM.dropWhile_le (fun x => (⟨#[32, 9]⟩ : ByteArray).data.toList.contains x) ((rd_T36 l n).f1.data.toList.reverse)
        have h2 := FM.dropWhile_le (fun x => (⟨#[32, 9]⟩ : ByteArray).data.toList.contains x) (Lib.trimRightS (rd_T36 l n).f1.data.toList [32, 9])
        have e1 : ((rd_T36 l n).f1.data.toList).length = (rd_T36 l n).f1.size := Array.length_toList
        show (Lib.trimS _ _).toArray.size ≤ B
        rw [List.size_toArray]
        unfold Lib.trimS
        unfold Lib.trimLeftS at *
        unfold Lib.trimRightS at *
        simp only [List.length_reverse] at h1 h2 ⊢
        exact Nat.le_trans h2 (Nat.le_trans h1 (by omega))
      | false =>
        have ih := value_l0 l key B hs hB hl hkey k n (by omega) (by omega)
        rw [w64 ((n : Int) - 1) (by omega) (by omega)]
        simpa using ih
theorem value_ok (l : List Hd) (key : ByteArray) (B : Nat) (hs : Short B l) (hB : B < 1000000000) (hl : l.length < 1000000000) (hkey : key.size < 1000) (k : Nat) (hk : l.length + 1001 ≤ k) :
    ∃ t b, feed_value.f k l key = some (t, b) ∧ t.size ≤ B ∧ (b = false → t = ⟨#[]⟩) := by
  unfold feed_value.f
  rw [w64 _ (by omega) (by omega)]
  exact value_l0 l key B hs hB hl hkey k l.length (Nat.le_refl _) hk
end Go.Proofs.YtelgjeeleofgoaaGreatDoor

/- What layer 8's functions answer, in plain words, further: limit, later, Reset, Retry, From; FeedMost. -/
namespace Go.Proofs.YtelgjeeleofgoaaGreatDoor
open Go.RowKit Go.Proofs.YtelgjeeleofgoaaGreatDoorW.PrintWords PF
set_option linter.unusedVariables false
namespace FM
theorem pParams_len : ∀ (f : Nat) (l : Bs) (ps : List Pm) (r : Bs), pParams f l = some (ps, r) → ps.length + r.length ≤ l.length := by
  intro f
  induction f with
  | zero => intro l ps r h; simp [pParams] at h
  | succ f ih =>
    intro l ps r h
    match l, h with
    | [], h => simp [pParams] at h; obtain ⟨rfl, rfl⟩ := h; simp
    | c :: t, h =>
      simp only [pParams] at h
      split at h
      · have hd := dropWhile_le blank t
        split at h
        · cases h
        · rename_i k l1 hk
          have h1 := (pKey_le hk).1
          split at h
          · cases h
          · rename_i v l2 hb
            have h2 := pBehind_le hb
            cases hp : pParams f l2 with
            | none => rw [hp] at h; simp at h
            | some y =>
              obtain ⟨ps', r'⟩ := y
              have h3 := ih l2 ps' r' hp
              rw [hp] at h
              simp only [Option.map_some, Option.some.injEq, Prod.mk.injEq] at h
              obtain ⟨rfl, rfl⟩ := h
              simp only [List.length_cons]
              omega
      · simp only [Option.some.injEq, Prod.mk.injEq] at h
        obtain ⟨rfl, rfl⟩ := h
        simp
theorem pHead_le {l k l1 : Bs} {v : V} (h : pHead l = some (k, v, l1)) : l1.length ≤ l.length := by
  match l, h with
  | [], h => simp [pHead] at h
  | c :: t, h =>
    simp only [pHead] at h
    split at h
    · cases hq : pQuoted (t.length + 1) [] t with
      | none => rw [hq] at h; simp at h
      | some y =>
        obtain ⟨a, b⟩ := y
        have := (pQuoted_le _ _ _ _ _ hq).1
        rw [hq] at h
        simp only [Option.map_some, Option.some.injEq, Prod.mk.injEq] at h
        obtain ⟨_, _, rfl⟩ := h
        simp only [List.length_cons]
        omega
    · split at h
      · cases h
      · rename_i k' l' hk
        have h1 := (pKey_le hk).1
        cases hb : pBehind l' with
        | none => rw [hb] at h; simp at h
        | some y =>
          obtain ⟨v', l2⟩ := y
          have h2 := pBehind_le hb
          rw [hb] at h
          simp only [Option.map_some, Option.some.injEq, Prod.mk.injEq] at h
          obtain ⟨_, _, rfl⟩ := h
          omega
theorem pItem_len {l r : Bs} {x : It} (h : pItem l = some (x, r)) : x.ps.length ≤ l.length ∧ r.length ≤ l.length := by
  unfold pItem at h
  split at h
  · cases h
  · rename_i k v l1 hh
    have h1 := pHead_le hh
    cases hp : pParams (l1.length + 1) l1 with
    | none => rw [hp] at h; simp at h
    | some y =>
      obtain ⟨ps, r'⟩ := y
      have h2 := pParams_len _ _ _ _ hp
      rw [hp] at h
      simp only [Option.map_some, Option.some.injEq, Prod.mk.injEq] at h
      obtain ⟨rfl, rfl⟩ := h
      exact ⟨by show ps.length ≤ _; omega, by omega⟩
theorem pItems_len : ∀ (f : Nat) (l : Bs) (xs : List It), pItems f l = some xs → xs.length ≤ f ∧ ∀ x ∈ xs, x.ps.length ≤ l.length := by
  intro f
  induction f with
  | zero => intro l xs h; simp [pItems] at h
  | succ f ih =>
    intro l xs h
    simp only [pItems] at h
    split at h
    · cases h
    · rename_i x l1 hx
      obtain ⟨h1, h2⟩ := pItem_len hx
      split at h
      · simp only [Option.some.injEq] at h
        subst h
        exact ⟨by simp, by simpa using h1⟩
      · rename_i c r hc
        have hd := dropWhile_le blank2 l1
        have hd2 := dropWhile_le blank2 r
        rw [hc] at hd
        simp only [List.length_cons] at hd
        split at h
        · cases hp : pItems f (r.dropWhile blank2) with
          | none => rw [hp] at h; simp at h
          | some ys =>
            have h3 := ih _ _ hp
            rw [hp] at h
            simp only [Option.map_some, Option.some.injEq] at h
            subst h
            refine ⟨by simp only [List.length_cons]; omega, fun y hy => ?_⟩
            rcases List.mem_cons.1 hy with rfl | hy
            · exact h1
            · have := h3.2 y hy
              omega
        · cases h
theorem trim_len (l : Bs) : (trim blank l).length ≤ l.length := by
  unfold trim
  have h1 := dropWhile_le blank (l.reverse.dropWhile blank).reverse
  have h2 := dropWhile_le blank l.reverse
  simp at h1 h2
  omega
theorem pParse_len {l : Bs} {xs : List It} (h : pParse l = some xs) : xs.length ≤ 16 ∧ ∀ x ∈ xs, x.ps.length ≤ l.length := by
  unfold pParse at h
  split at h
  · simp only [Option.some.injEq] at h
    subst h
    exact ⟨by simp, by simp⟩
  · have h1 := pItems_len _ _ _ h
    have h2 := trim_len l
    exact ⟨h1.1, fun x hx => Nat.le_trans (h1.2 x hx) h2⟩
end FM
theorem fparse_ok (a : ByteArray) (h : a.size < 1000000000) : ∃ l ok, field_Parse.f a = some (l, ok) ∧ l.length ≤ 16 ∧ ∀ x ∈ l, x.f2.length ≤ a.size := by
  have e1 : a.data.toList.length = a.size := Array.length_toList
  unfold field_Parse.f
  rw [if_pos (by omega)]
  cases hp : FM.pParse a.data.toList with
  | none => exact ⟨[], false, rfl, by simp, by simp⟩
  | some xs =>
    have h1 := FM.pParse_len hp
    refine ⟨_, _, rfl, by rw [List.length_map]; exact h1.1, fun x hx => ?_⟩
    obtain ⟨y, hy, rfl⟩ := List.mem_map.1 hx
    have := h1.2 y hy
    show (y.ps.map FM.Pm.out).length ≤ _
    rw [List.length_map]
    omega
theorem fnum_ok (a b : Int) (c : ByteArray) : ∃ r ok, field_number.f a b c = some (r, ok) := by
  unfold field_number.f
  split
  · exact ⟨_, _, rfl⟩
  · exact ⟨_, _, rfl⟩
theorem Number_l0 (l : List S56) (key : ByteArray) (hl : l.length < 1000000000) : ∀ (k n : Nat), n ≤ l.length → n + 1 ≤ k → ∃ r b, field_Number.l0 k l key ((n : Int) - 1) = some (r, b)
  | 0, n, _, hk => by omega
  | k + 1, n, hn, hk => by
    simp only [field_Number.l0]
    cases n with
    | zero => rw [if_neg (by omega)]; exact ⟨_, _, rfl⟩
    | succ n =>
      have e : ((n + 1 : Nat) : Int) - 1 = (n : Int) := by omega
      rw [e, if_pos (by omega), if_pos (by omega), if_pos (by omega)]
      split
      · obtain ⟨r, ok, hr⟩ := fnum_ok (rd_T56 l n).f1.f0 (rd_T56 l n).f1.f1 (rd_T56 l n).f1.f2
        rw [hr]
        exact ⟨_, _, rfl⟩
      · rw [w64 ((n : Int) - 1) (by omega) (by omega)]
        exact Number_l0 l key hl k n (by omega) (by omega)
theorem Number_ok (l : List S56) (key : ByteArray) (hl : l.length < 1000000000) (k : Nat) (hk : l.length + 1 ≤ k) : ∃ r b, field_Number.f k l key = some (r, b) := by
  unfold field_Number.f
  rw [w64 _ (by omega) (by omega)]
  exact Number_l0 l key hl k l.length (Nat.le_refl _) hk
theorem Param_l0 (l : List S87) (key : ByteArray) (a d : ByteArray) (b c : Int) (hl : l.length < 1000000000) : ∀ (k n : Nat), n ≤ l.length → n + 1 ≤ k → ∃ r ok, field_Param.l0 k key ((n : Int) - 1) a b c d l = some (r, ok)
  | 0, n, _, hk => by omega
  | k + 1, n, hn, hk => by
    simp only [field_Param.l0]
    cases n with
    | zero => rw [if_neg (by omega)]; exact ⟨_, _, rfl⟩
    | succ n =>
      have e : ((n + 1 : Nat) : Int) - 1 = (n : Int) := by omega
      rw [e, if_pos (by omega), if_pos (by omega), if_pos (by omega)]
      split
      · obtain ⟨r, ok, hr⟩ := fnum_ok (rd_T87 l n).f1.f0 (rd_T87 l n).f1.f1 (rd_T87 l n).f1.f2
        rw [hr]
        exact ⟨_, _, rfl⟩
      · rw [w64 ((n : Int) - 1) (by omega) (by omega)]
        exact Param_l0 l key a d b c hl k n (by omega) (by omega)
theorem Param_ok (l : List S87) (key : ByteArray) (a d : ByteArray) (b c : Int) (hl : l.length < 1000000000) (k : Nat) (hk : l.length + 1 ≤ k) : ∃ r ok, field_Param.f k a b c d l key = some (r, ok) := by
  unfold field_Param.f
  rw [w64 _ (by omega) (by omega)]
  exact Param_l0 l key a d b c hl k l.length (Nat.le_refl _) hk
theorem rdI_mem {l : List S56} {i : Int} (h0 : 0 ≤ i) (h1 : i < l.length) : rd_T56 l i ∈ l := by
  unfold rd_T56
  have hi : i.toNat < l.length := by omega
  rw [List.getD_eq_getElem?_getD, List.getElem?_eq_getElem hi]
  exact List.getElem_mem hi
theorem limit_l0 (l : List S56) (P : Nat) (hP : ∀ x ∈ l, x.f2.length ≤ P) (hPB : P < 1000000000) (hl : l.length < 1000000000) : ∀ (k i : Nat) (x : Int) (b : Bool), i ≤ l.length → l.length + P + 5 ≤ k + i → P + 4 ≤ k → ∃ r ok, feed_limit.l0 k x b l l.length i = some (r, ok)
  | 0, i, x, b, _, _, hk => by omega
  | k + 1, i, x, b, hi, hk, hk1 => by
    simp only [feed_limit.l0]
    by_cases h : (i : Int) < l.length
    · rw [if_pos h, if_pos (by omega)]
      have hm := hP _ (rdI_mem (l := l) (i := (i : Int)) (by omega) h)
      obtain ⟨r1, ok1, e1⟩ := Param_ok (rd_T56 l i).f2 (⟨#[114]⟩ : ByteArray) (rd_T56 l i).f0 (rd_T56 l i).f1.f2 (rd_T56 l i).f1.f0 (rd_T56 l i).f1.f1 (by omega) k (by omega)
      obtain ⟨r2, ok2, e2⟩ := Param_ok (rd_T56 l i).f2 (⟨#[116]⟩ : ByteArray) (rd_T56 l i).f0 (rd_T56 l i).f1.f2 (rd_T56 l i).f1.f0 (rd_T56 l i).f1.f1 (by omega) k (by omega)
      rw [e1, e2]
      simp only [Option.bind_some]
      have ih := fun y c => limit_l0 l P hP hPB hl k (i + 1) y c (by omega) (by omega) (by omega)
      push_cast at ih
      rw [if_pos h, w64 ((i : Int) + 1) (by omega) (by omega)]
      (repeat' split) <;> exact ih _ _
    · rw [if_neg h]
      exact ⟨_, _, rfl⟩
theorem limit_ok (a : ByteArray) (h : a.size ≤ 3000) (k : Nat) (hk : 5000 ≤ k) : ∃ r ok, feed_limit.f k a = some (r, ok) := by
  obtain ⟨l, ok, e, hl, hP⟩ := fparse_ok a (by omega)
  unfold feed_limit.f
  rw [e]
  simp only [Option.bind_some]
  split
  · obtain ⟨r1, b1, e1⟩ := Number_ok l (⟨#[114, 101, 109, 97, 105, 110, 105, 110, 103]⟩ : ByteArray) (by omega) k (by omega)
    obtain ⟨r2, b2, e2⟩ := Number_ok l (⟨#[114, 101, 115, 101, 116]⟩ : ByteArray) (by omega) k (by omega)
    rw [e1, e2]
    simp only [Option.bind_some]
    have hj : ∀ x b, ∃ r ok, feed_limit.j0 k l x b = some (r, ok) := by
      intro x b
      obtain ⟨k', rfl⟩ : ∃ k', k = k' + 1 := ⟨k - 1, by omega⟩
      simp only [feed_limit.j0]
      split
      · exact ⟨_, _, rfl⟩
      · exact limit_l0 l a.size hP (by omega) (by omega) k' 0 0 false (by omega) (by omega) (by omega)
    (repeat' split) <;> exact hj _ _
  · exact ⟨_, _, rfl⟩
/-- What is told of a moment: from 0 to the end. -/
def InT (o : Option (Int × Bool)) : Prop := ∃ r ok, o = some (r, ok) ∧ 0 ≤ r ∧ r ≤ 1099511627776
theorem tmul_nn (a b : Int) (ha : 0 ≤ a) (hb : 0 ≤ b) : 0 ≤ tmul a b := by
  have h1 : 0 ≤ held a := by unfold held; split <;> (try split) <;> omega
  have h2 : 0 ≤ held b := by unfold held; split <;> (try split) <;> omega
  unfold tmul
  have d1 : decide (held a < 0) = false := decide_eq_false (by omega)
  have d2 : decide (held b < 0) = false := decide_eq_false (by omega)
  simp only [d1, d2]
  simp only [bne_self_eq_false, Bool.false_eq_true, if_false]
  split <;> omega
theorem tadd_nn (a b : Int) (ha : 0 ≤ a) (hb : 0 ≤ b) : 0 ≤ tadd a b := by
  unfold tadd held
  (repeat' split) <;> omega
theorem mn_bd (x c : Int) (hx : 0 ≤ x) (hc : 0 ≤ c) : 0 ≤ mn x c ∧ mn x c ≤ c := by unfold mn; split <;> omega
theorem later_ok (a s : Int) (ha : 0 ≤ a) : InT (feed_later.f a s) := by
  unfold feed_later.f
  split
  · exact ⟨0, false, rfl, by omega, by omega⟩
  · rename_i hs
    have := mn_bd (tadd a (tmul s 1000)) 1099511627776 (tadd_nn _ _ ha (tmul_nn _ _ (by omega) (by omega))) (by omega)
    exact ⟨_, true, rfl, this.1, this.2⟩
theorem clock_bd (a : Int) : 0 ≤ mx 0 (mn a 1099511627776) ∧ mx 0 (mn a 1099511627776) ≤ 1099511627776 := by unfold mx mn; (repeat' split) <;> omega
theorem fdig_ok (a : ByteArray) (h : a.size ≤ 4000000) : feed_digits.f a = some ((digitsM a).getD 0, (digitsM a).isSome) := by
  unfold feed_digits.f
  rw [if_pos (by omega)]
theorem elder_ok (l : List Hd) (hs : Short 3000 l) (hl : l.length ≤ 400) (k : Nat) (hk : 5000 ≤ k) : ∃ r ok, feed_elder.f k l = some (r, ok) := by
  unfold feed_elder.f
  obtain ⟨t1, b1, e1, s1, _⟩ := value_ok l (⟨#[88, 45, 82, 97, 116, 101, 76, 105, 109, 105, 116, 45, 82, 101, 109, 97, 105, 110, 105, 110, 103]⟩ : ByteArray) 3000 hs (by omega) (by omega) (by decide) k (by omega)
  obtain ⟨t2, b2, e2, s2, _⟩ := value_ok l (⟨#[88, 45, 82, 97, 116, 101, 76, 105, 109, 105, 116, 45, 82, 101, 115, 101, 116]⟩ : ByteArray) 3000 hs (by omega) (by omega) (by decide) k (by omega)
  rw [e1, e2]
  simp only [Option.bind_some]
  rw [fdig_ok t1 (by omega), fdig_ok t2 (by omega)]
  simp only [Option.bind_some]
  (repeat' split) <;> exact ⟨_, _, rfl⟩
theorem Reset_ok (l : List Hd) (a : Int) (hs : Short 3000 l) (hl : l.length ≤ 400) (k : Nat) (hk : 5001 ≤ k) : InT (feed_Reset.f k l a) := by
  unfold feed_Reset.f feed_clock.f
  simp only [Option.bind_some]
  have hc := clock_bd a
  obtain ⟨c, hce⟩ : ∃ c, mx 0 (mn a 1099511627776) = c := ⟨_, rfl⟩
  rw [hce] at hc ⊢
  have hj : InT (feed_Reset.j0 k l c) := by
    obtain ⟨k', rfl⟩ : ∃ k', k = k' + 1 := ⟨k - 1, by omega⟩
    simp only [feed_Reset.j0]
    obtain ⟨r, ok, e⟩ := elder_ok l hs hl k' (by omega)
    rw [e]
    simp only [Option.bind_some]
    split
    · obtain ⟨r', ok', e', h'⟩ := later_ok c r hc.1
      rw [e']
      exact ⟨r', ok', rfl, h'⟩
    · exact ⟨0, false, rfl, by omega, by omega⟩
  obtain ⟨t1, b1, e1, s1, _⟩ := value_ok l (⟨#[82, 97, 116, 101, 76, 105, 109, 105, 116]⟩ : ByteArray) 3000 hs (by omega) (by omega) (by decide) k (by omega)
  rw [e1]
  simp only [Option.bind_some]
  split
  · obtain ⟨r, ok, e⟩ := limit_ok t1 s1 k (by omega)
    rw [e]
    simp only [Option.bind_some]
    split
    · obtain ⟨r', ok', e', h'⟩ := later_ok c r hc.1
      rw [e']
      exact ⟨r', ok', rfl, h'⟩
    · exact hj
  · exact hj
theorem Retry_ok (s : ByteArray) (a : Int) (hs : s.size ≤ 3000000) : InT (feed_Retry.f s a) := by
  unfold feed_Retry.f feed_clock.f
  simp only [Option.bind_some]
  have hc := clock_bd a
  obtain ⟨c, hce⟩ : ∃ c, mx 0 (mn a 1099511627776) = c := ⟨_, rfl⟩
  rw [hce] at hc ⊢
  unfold strings_Trim.f
  rw [if_pos ⟨by omega, by decide, by decide⟩]
  simp only [Option.bind_some]
  obtain ⟨t, ht⟩ : ∃ t, (⟨(Lib.trimS s.data.toList (⟨#[32, 9]⟩ : ByteArray).data.toList).toArray⟩ : ByteArray) = t := ⟨_, rfl⟩
  have hts : t.size ≤ s.size := by
    rw [← ht]
    show (Lib.trimS _ _).toArray.size ≤ _
    have e1 : s.data.toList.length = s.size := Array.length_toList
    have h1 := FM.dropWhile_le (fun x => (⟨#[32, 9]⟩ : ByteArray).data.toList.contains x) (s.data.toList.reverse)
    have h2 := FM.dropWhile_le (fun x => (⟨#[32, 9]⟩ : ByteArray).data.toList.contains x) (Lib.trimRightS s.data.toList [32, 9])
    rw [List.size_toArray]
    unfold Lib.trimS
    unfold Lib.trimLeftS at *
    unfold Lib.trimRightS at *
    simp only [List.length_reverse] at h1 h2 ⊢
    exact Nat.le_trans h2 (Nat.le_trans h1 (by omega))
  rw [ht, fdig_ok t (by omega)]
  simp only [Option.bind_some]
  split
  · obtain ⟨r', ok', e', h'⟩ := later_ok c ((digitsM t).getD 0) hc.1
    rw [e']
    exact ⟨r', ok', rfl, h'⟩
  · unfold date_Parse.f
    rw [if_pos (by omega)]
    simp only [Option.bind_some]
    split
    · split
      · exact ⟨0, false, rfl, by omega, by omega⟩
      · have := mn_bd (tmul ((parseM t (wrap64 (Int.tdiv c 1000))).getD 0) 1000) 1099511627776 (tmul_nn _ _ (by omega) (by omega)) (by omega)
        exact ⟨_, true, rfl, this.1, this.2⟩
    · exact ⟨0, false, rfl, by omega, by omega⟩
theorem Class_ok (a : Int) (k : Nat) (hk : 10 ≤ k) : ∃ r, feed_Class.f k a = some r ∧ 1 ≤ r ∧ r ≤ 4 := by
  obtain ⟨k', rfl⟩ : ∃ k', k = k' + 2 := ⟨k - 2, by omega⟩
  unfold feed_Class.f
  simp only [feed_Class.j0, feed_Class.j1]
  (repeat' split) <;> exact ⟨_, rfl, by omega, by omega⟩
theorem fvalue_nil (key : ByteArray) (k : Nat) (hk : 1 ≤ k) : feed_value.f k [] key = some (⟨#[]⟩, false) := by
  obtain ⟨k', rfl⟩ : ∃ k', k = k' + 1 := ⟨k - 1, by omega⟩
  unfold feed_value.f
  rw [w64 _ (by simp) (by simp)]
  simp [feed_value.l0]
theorem Reset_nil (a : Int) (k : Nat) (hk : 2 ≤ k) : feed_Reset.f k [] a = some (0, false) := by
  obtain ⟨k', rfl⟩ : ∃ k', k = k' + 1 := ⟨k - 1, by omega⟩
  have hd : feed_digits.f (⟨#[]⟩ : ByteArray) = some (0, false) := by kernel_rfl
  unfold feed_Reset.f feed_clock.f
  rw [fvalue_nil _ _ (by omega)]
  simp only [Option.bind_some, Bool.false_eq_true, if_false, feed_Reset.j0, feed_elder.f]
  rw [fvalue_nil _ k' (by omega), fvalue_nil _ k' (by omega)]
  simp only [Option.bind_some, hd, Bool.false_eq_true, if_false]
theorem From_ok (st : Int) (l : List Hd) (a : Int) (hs : Short 3000 l) (hl : l.length ≤ 400) (k : Nat) (hk : 5001 ≤ k) :
    ∃ c r q, feed_From.f k st l a = some (c, r, q) ∧ feed_Class.f k st = some c ∧ 1 ≤ c ∧ c ≤ 4 ∧ 0 ≤ r ∧ r ≤ 1099511627776 ∧ 0 ≤ q ∧ q ≤ 1099511627776 := by
  obtain ⟨c, hc, h1, h4⟩ := Class_ok st k (by omega)
  obtain ⟨q, b, hq, q0, q1⟩ := Reset_ok l a hs hl k hk
  unfold feed_From.f
  obtain ⟨t1, b1, e1, s1, _⟩ := value_ok l (⟨#[82, 101, 116, 114, 121, 45, 65, 102, 116, 101, 114]⟩ : ByteArray) 3000 hs (by omega) (by omega) (by decide) k (by omega)
  rw [hc, e1, hq]
  simp only [Option.bind_some]
  split
  · obtain ⟨r, ok, e, r0, r1⟩ := Retry_ok t1 a (by omega)
    rw [e]
    exact ⟨c, r, q, rfl, rfl, h1, h4, r0, r1, q0, q1⟩
  · exact ⟨c, 0, q, rfl, rfl, h1, h4, by omega, by omega, q0, q1⟩
theorem From_nil (st : Int) (a : Int) (k : Nat) (hk : 10 ≤ k) (c : Int) (hc : feed_Class.f k st = some c) : feed_From.f k st [] a = some (c, 0, 0) := by
  unfold feed_From.f
  rw [hc, fvalue_nil _ k (by omega), Reset_nil a k (by omega)]
  simp
theorem awake_up (k : Nat) (hk : 40 ≤ k) : decorumlaw08_awake.f k = some true := at_rounds decorumlaw08_awake.mono hk awake_40
theorem most_true (st : Int) (l : List Hd) (a : Int) (hs : Short 1048576 l) : decorumlaw08_FeedMost.f 6000 st l a = some true := by
  unfold decorumlaw08_FeedMost.f
  obtain ⟨b, hb, hb2⟩ := small_ok l hs 6000 (by omega)
  rw [hb]
  simp only [Option.bind_some, awake_up 6000 (by omega)]
  cases b with
  | false => rfl
  | true =>
    obtain ⟨hl, hs3⟩ := hb2 rfl
    obtain ⟨c, r, q, e, hc, h1, h4, r0, r1, q0, q1⟩ := From_ok st l a hs3 (by omega) 6000 (by omega)
    rw [e, From_nil st a 6000 (by omega) c hc]
    simp only [Option.bind_some, if_true]
    rw [if_pos r0, if_pos r1, if_pos q0, if_pos q1]
    simp [h1, h4]
end Go.Proofs.YtelgjeeleofgoaaGreatDoor
