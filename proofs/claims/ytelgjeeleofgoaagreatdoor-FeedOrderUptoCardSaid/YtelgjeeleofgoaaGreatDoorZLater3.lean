/- A part of the proof (see the last text): texts of the session and printed words, put together by a program of the session. -/
import Derived.Test.YtelgjeeleofgoaaGreatDoorZLater2
import Derived.WalkSpells
import Derived.Deep.LoopGhost
import Derived.Deep.RegionHeld3
import Derived.WalkSmall
import Derived.Shelf.Strings.SlTrimAscii
import Derived.Lib.AtoiErrMem
/- The reader of package field: a name; a number. -/
namespace Go.Proofs.YtelgjeeleofgoaaGreatDoor
open Go.RowKit
set_option linter.unusedSimpArgs false
set_option linter.unusedVariables false

theorem small_key {c : UInt8} (h : FM.small c = true ∨ c.toNat = 42) : FM.inKey c = true := by
  rcases h with h | h
  · simp [FM.inKey, h]
  · have : c = 42 := UInt8.toNat_inj.1 (by simpa using h)
    subst this; decide
set_option maxHeartbeats 2000000 in
theorem key_yes (g : Nat) (l k r : Bs) (w : World) (h : Rd g l false w) (hl : l.length < 4294967281) (hk : FM.pKey l = some (k, r)) :
    Calls Tryz.prog 94 #[.pointer (some ⟨g, 0, none⟩)] w fun e w' => e = .returned (.string (bs k)) ∧ Rd g r false w' ∧ But g w w' := by
  match l with
  | [] => simp [FM.pKey] at hk
  | c :: l' =>
  simp only [FM.pKey] at hk
  split at hk
  case isFalse => cases hk
  case isTrue hc =>
  simp only [Option.some.injEq, Prod.mk.injEq] at hk
  obtain ⟨rfl, rfl⟩ := hk
  have hS := span_inKey g (c :: l') false w h hl
  have hkc := small_key hc
  obtain ⟨T, hT⟩ : ∃ T, (c :: l').takeWhile FM.inKey = c :: T := ⟨l'.takeWhile FM.inKey, by simp [List.takeWhile_cons, hkc]⟩
  rw [hT] at hS ⊢
  obtain ⟨D, hD⟩ : ∃ D, (c :: l').dropWhile FM.inKey = D := ⟨_, rfl⟩
  rw [hD] at hS ⊢
  have HS := Lib.hid hS
  clear hS hT hD h hkc hl
  have k1 : (bs (c :: T)).toList = c :: T := bs_toList _
  have k2 : 0 < (bs (c :: T)).size := by rw [bs_size]; simp
  have k3 := bs_head c T k2
  cases hs : FM.small c with
  | true =>
    have HC : Hid (∀ W, Calls Tryz.prog 125 #[.int .u8 (c.toNat : Int)] W fun e w' => e = .returned (.bool true) ∧ W = w') := Lib.hid fun W => by
      have := small_any c W; rw [hs] at this; exact this
    clear hs hc
    go_enter Tryz.func94, Tryz.ntmps94
    go_wp2_with fail
    refine HS.out.mono ?_
    rintro e w1 ⟨rfl, hR, hB⟩
    have c1 := hR.c1
    have f1 := hR.f1
    have HR := Lib.hid hR
    clear hR
    go_wp2_with (go_at_call 125; refine (HC.out _).mono ?_; rintro e w' ⟨rfl, rfl⟩)
    go_ret
    exact ⟨rfl, HR.out.set1, hB.set _ _⟩
  | false =>
    have h42 : c.toNat = 42 := by rcases hc with h | h; · rw [hs] at h; cases h
                                  · exact h
    have h42' : ((c.toNat : Int) != 42) = false := by rw [h42]; rfl
    have HC : Hid (∀ W, Calls Tryz.prog 125 #[.int .u8 (c.toNat : Int)] W fun e w' => e = .returned (.bool false) ∧ W = w') := Lib.hid fun W => by
      have := small_any c W; rw [hs] at this; exact this
    clear hs hc h42
    go_enter Tryz.func94, Tryz.ntmps94
    go_wp2_with fail
    refine HS.out.mono ?_
    rintro e w1 ⟨rfl, hR, hB⟩
    have c1 := hR.c1
    have f1 := hR.f1
    have HR := Lib.hid hR
    clear hR
    go_wp2_with (go_at_call 125; refine (HC.out _).mono ?_; rintro e w' ⟨rfl, rfl⟩)
    go_ret
    exact ⟨rfl, HR.out.set1, hB.set _ _⟩

/-- What a call leaves that found the text bad. -/
def Gone (g : Nat) (n : Nat) (P : Value → Prop) (w : World) (e : Ending) (w' : World) : Prop :=
  ∃ v r, e = .returned v ∧ P v ∧ r.length ≤ n ∧ Rd g r true w' ∧ But g w w'
def IsStr (v : Value) : Prop := ∃ k : Bs, v = .string (bs k)
set_option maxHeartbeats 4000000 in
theorem key_no (g : Nat) (l : Bs) (bad : Bool) (w : World) (h : Rd g l bad w) (hl : l.length < 4294967281) (hk : bad = true ∨ FM.pKey l = none) :
    Calls Tryz.prog 94 #[.pointer (some ⟨g, 0, none⟩)] w (Gone g l.length IsStr w) := by
  have hS := span_inKey g l bad w h hl
  have hle := FM.dropWhile_le FM.inKey l
  obtain ⟨D, hD⟩ : ∃ D, l.dropWhile FM.inKey = D := ⟨_, rfl⟩
  rw [hD] at hS hle
  have HS := Lib.hid hS
  clear hS hD h hl
  cases bad with
  | true =>
    generalize l.takeWhile FM.inKey = T at *
    clear hk
    go_enter Tryz.func94, Tryz.ntmps94
    go_wp2_with fail
    refine HS.out.mono ?_
    rintro e w1 ⟨rfl, hR, hB⟩
    have c1 := hR.c1
    have f1 := hR.f1
    have HR := Lib.hid hR
    clear hR
    go_wp2_with fail
    go_ret
    exact ⟨_, D, rfl, ⟨_, rfl⟩, hle, HR.out.set1, hB.set _ _⟩
  | false =>
    have hk' : FM.pKey l = none := by rcases hk with h | h; · cases h
                                      · exact h
    clear hk
    cases hT : l.takeWhile FM.inKey with
    | nil =>
      rw [hT] at HS
      have k1 : (bs []).toList = [] := bs_toList _
      clear hk' hT
      go_enter Tryz.func94, Tryz.ntmps94
      go_wp2_with fail
      refine HS.out.mono ?_
      rintro e w1 ⟨rfl, hR, hB⟩
      have c1 := hR.c1
      have f1 := hR.f1
      have HR := Lib.hid hR
      clear hR
      go_wp2_with fail
      go_ret
      exact ⟨_, D, rfl, ⟨_, rfl⟩, hle, HR.out.set1, hB.set _ _⟩
    | cons c T =>
      rw [hT] at HS
      have hc : FM.small c = false ∧ c.toNat ≠ 42 := by
        match l, hT, hk' with
        | d :: l', hT, hk' =>
          have e : d = c := by
            rw [List.takeWhile_cons] at hT
            split at hT
            · exact (List.cons.inj hT).1
            · cases hT
          subst e
          simp only [FM.pKey] at hk'
          split at hk'
          · cases hk'
          · rename_i hn
            exact ⟨by cases h : FM.small d with
                      | true => exact absurd (.inl h) hn
                      | false => rfl, fun h => hn (.inr h)⟩
      have k1 : (bs (c :: T)).toList = c :: T := bs_toList _
      have k2 : 0 < (bs (c :: T)).size := by rw [bs_size]; simp
      have k3 := bs_head c T k2
      have h42 : ((c.toNat : Int) != 42) = true := by rw [bne_iff_ne]; have := hc.2; omega
      have HC : Hid (∀ W, Calls Tryz.prog 125 #[.int .u8 (c.toNat : Int)] W fun e w' => e = .returned (.bool false) ∧ W = w') := Lib.hid fun W => by
        have := small_any c W; rw [hc.1] at this; exact this
      clear hk' hT hc
      go_enter Tryz.func94, Tryz.ntmps94
      go_wp2_with fail
      refine HS.out.mono ?_
      rintro e w1 ⟨rfl, hR, hB⟩
      have c1 := hR.c1
      have f1 := hR.f1
      have HR := Lib.hid hR
      clear hR
      go_wp2_with (go_at_call 125; refine (HC.out _).mono ?_; rintro e w' ⟨rfl, rfl⟩)
      go_ret
      exact ⟨_, D, rfl, ⟨_, rfl⟩, hle, HR.out.set1, hB.set _ _⟩
end Go.Proofs.YtelgjeeleofgoaaGreatDoor

/- Digits in texts: what a range over a text meets. -/
namespace Go.Proofs.YtelgjeeleofgoaaGreatDoor
open Go.RowKit
set_option linter.unusedSimpArgs false
set_option linter.unusedVariables false

theorem numv_snoc (l : Bs) (c : UInt8) : numv (l ++ [c]) = 10 * numv l + ((c.toNat : Int) - 48) := by simp [numv, List.foldl_append]
theorem digs_snoc (l : Bs) (c : UInt8) : digs (l ++ [c]) = (digs l && dig c) := by simp [digs, List.all_append]
theorem take_snoc (s : ByteArray) (k : Nat) (h : k < s.size) : s.data.toList.take (k + 1) = s.data.toList.take k ++ [s[k]] := by
  rw [List.take_succ_eq_append_getElem (by simpa using h)]; rfl
theorem take_all (s : ByteArray) (k : Nat) (h : s.size ≤ k) : s.data.toList.take k = s.data.toList := List.take_of_length_le (by simpa using h)
theorem digs_not (s : ByteArray) (k : Nat) (h : k < s.size) (hd : dig s[k] = false) : digs s.data.toList = false := by
  simp only [digs, List.all_eq_false]
  exact ⟨s[k], by simp [ByteArray.getElem_eq_getElem_data], by simp [hd]⟩
theorem numv_bd : ∀ (n : Nat) (l : Bs), l.length ≤ n → digs l = true → 0 ≤ numv l ∧ numv l < 10 ^ n
  | n, l, h, hd => by
    induction n generalizing l with
    | zero => obtain rfl : l = [] := List.length_eq_zero_iff.1 (by omega); simp [numv]
    | succ n ih =>
      rcases List.eq_nil_or_concat l with rfl | ⟨l', c, rfl⟩
      · have : (0 : Int) < 10 ^ (n + 1) := Int.pow_pos (by decide)
        simpa [numv] using this
      · rw [List.concat_eq_append] at *
        rw [digs_snoc, Bool.and_eq_true] at hd
        have := ih l' (by simp at h; omega) hd.1
        have hc : 48 ≤ c.toNat ∧ c.toNat ≤ 57 := by simpa [dig] using hd.2
        rw [numv_snoc, Int.pow_succ]
        omega

theorem dig_yes (s : ByteArray) (pos : Nat) (h : pos < s.size) (hd : dig s[pos] = true) : 48 ≤ s[pos].toNat ∧ s[pos].toNat ≤ 57 := by simpa [dig] using hd
/-- At a byte that is no digit a range over a text meets a rune that is none. -/
theorem rune_no (s : ByteArray) (pos : Nat) (h : pos < s.size) (hd : dig s[pos] = false) : (Utf8.decode s pos).1 < 48 ∨ 57 < (Utf8.decode s pos).1 := by
  have hd' : ¬ (48 ≤ s[pos].toNat ∧ s[pos].toNat ≤ 57) := by simpa [dig] using hd
  by_cases ha : s[pos].toNat < 128
  · rw [decode_ascii s pos h ha]; omega
  · have := (decode_high s pos h (by omega)).1; omega
end Go.Proofs.YtelgjeeleofgoaaGreatDoor

/- Package civil: leap years, months, days since the first one of 1970 and back. -/
namespace Go.Proofs.YtelgjeeleofgoaaGreatDoor
open Go.RowKit
set_option linter.unusedSimpArgs false
set_option linter.unusedVariables false
attribute [local go_sem] max2_int min2_int max_two min_two

def leap (y : Int) : Bool := decide (y % 4 = 0 ∧ (y % 100 ≠ 0 ∨ y % 400 = 0))
def mlen (y m : Int) : Int :=
  if m = 2 then (if leap y then 29 else 28)
  else if m = 4 ∨ m = 6 ∨ m = 9 ∨ m = 11 then 30
  else if m = 1 ∨ m = 3 ∨ m = 5 ∨ m = 7 ∨ m = 8 ∨ m = 10 ∨ m = 12 then 31
  else 0
theorem mlen_bd (y m : Int) : 0 ≤ mlen y m ∧ mlen y m ≤ 31 := by unfold mlen; (repeat' split) <;> omega
def before (y : Int) : Int := if y = 0 then 0 else 365 * y + (y - 1) / 4 - (y - 1) / 100 + (y - 1) / 400 + 1

set_option maxHeartbeats 400000 in
theorem leap_any (y : Int) (w : World) (h0 : 0 ≤ y) (h1 : y ≤ 10000) : Calls Tryz.prog 145 #[.int .i64 y] w fun e w' => e = .returned (.bool (leap y)) ∧ w = w' := by
  by_cases a : y % 4 = 0 <;> by_cases b : y % 100 = 0 <;> by_cases c : y % 400 = 0
  all_goals
    go_enter Tryz.func145, Tryz.ntmps145
    go_wp2
  all_goals
    go_ret
    exact ⟨ret_bool (by unfold leap; simp [a, b, c]), rfl⟩

set_option maxHeartbeats 400000 in
theorem mlen_any (y m : Int) (w : World) (h0 : 0 ≤ y) (h1 : y ≤ 10000) : Calls Tryz.prog 120 #[.int .i64 y, .int .i64 m] w fun e w' => e = .returned (.int .i64 (mlen y m)) ∧ w = w' := by
  go_enter Tryz.func120, Tryz.ntmps120
  go_wp2_with (go_at_call 145; refine (leap_any _ _ (by omega) (by omega)).mono ?_; rintro e w' ⟨rfl, rfl⟩)
  all_goals
    go_ret
    exact ⟨ret_int (by unfold mlen; (repeat' split) <;> simp_all <;> omega), rfl⟩

theorem before_bd (y : Int) (h0 : 0 ≤ y) (h1 : y ≤ 10000) : 0 ≤ before y ∧ before y ≤ 3652425 := by unfold before; split <;> omega
theorem before_mono (a b : Int) (h0 : 0 ≤ a) (h : a ≤ b) : before a ≤ before b := by unfold before; split <;> split <;> omega
theorem before_succ (y : Int) (h0 : 0 ≤ y) : before (y + 1) = before y + 365 + (if leap y then 1 else 0) := by
  unfold before leap
  by_cases a : y % 4 = 0 <;> by_cases b : y % 100 = 0 <;> by_cases c : y % 400 = 0 <;> simp [a, b, c] <;> split <;> omega
set_option maxHeartbeats 400000 in
theorem before_any (y : Int) (w : World) (h0 : 0 ≤ y) (h1 : y ≤ 10000) : Calls Tryz.prog 121 #[.int .i64 y] w fun e w' => e = .returned (.int .i64 (before y)) ∧ w = w' := by
  by_cases a : y = 0
  · have hz : (y == 0) = true := by simpa using a
    go_enter Tryz.func121, Tryz.ntmps121
    go_wp2
    go_ret
    exact ⟨ret_int (by unfold before; rw [if_pos a]), rfl⟩
  · have hz : (y == 0) = false := by simpa using a
    have hp : 1 ≤ y := by omega
    go_enter Tryz.func121, Tryz.ntmps121
    go_wp2
    go_ret
    exact ⟨ret_int (by unfold before; rw [if_neg a]), rfl⟩

def cumN (y : Int) : Nat → Int
  | 0 => 0
  | n + 1 => cumN y n + mlen y (n + 1)
def cum (y m : Int) : Int := cumN y (m - 1).toNat
theorem cumN_bd (y : Int) (n : Nat) : 0 ≤ cumN y n ∧ cumN y n ≤ 31 * n := by
  induction n with
  | zero => simp [cumN]
  | succ n ih => have := mlen_bd y (n + 1); unfold cumN; omega
theorem cum_step (y m : Int) (h : 1 ≤ m) : cum y (m + 1) = cum y m + mlen y m := by
  unfold cum
  obtain ⟨n, rfl⟩ : ∃ n : Nat, m = n + 1 := ⟨(m - 1).toNat, by omega⟩
  have e1 : ((n : Int) + 1 + 1 - 1).toNat = n + 1 := by omega
  have e2 : ((n : Int) + 1 - 1).toNat = n := by omega
  rw [e1, e2, cumN]
theorem cum_bd (y j : Int) (h1 : 1 ≤ j) (h2 : j ≤ 13) : 0 ≤ cum y j ∧ cum y j ≤ 400 := by
  have := cumN_bd y (j - 1).toNat
  unfold cum; omega
def dayOk (y m d : Int) : Bool := decide (0 ≤ y ∧ y ≤ 9999 ∧ 1 ≤ d ∧ d ≤ mlen y m)
def dayNum (y m d : Int) : Int := before y - before 1970 + d - 1 + cum y m
theorem mlen_pos (y m : Int) (h : 1 ≤ mlen y m) : 1 ≤ m ∧ m ≤ 12 := by unfold mlen at h; (repeat' split at h) <;> omega

set_option maxHeartbeats 1000000 in
theorem days_no (y m d : Int) (w : World) (h : dayOk y m d = false) : Calls Tryz.prog 89 #[.int .i64 y, .int .i64 m, .int .i64 d] w fun e w' => e = .returned (.tuple #[.int .i64 0, .bool false]) ∧ w = w' := by
  have h' : ¬ (0 ≤ y ∧ y ≤ 9999 ∧ 1 ≤ d ∧ d ≤ mlen y m) := by simpa [dayOk] using h
  clear h
  by_cases a : y < 0
  · go_enter Tryz.func89, Tryz.ntmps89
    go_wp2_with fail
    go_ret2
    exact ⟨rfl, rfl⟩
  by_cases b : 9999 < y
  · go_enter Tryz.func89, Tryz.ntmps89
    go_wp2_with fail
    go_ret2
    exact ⟨rfl, rfl⟩
  by_cases c : d < 1
  · go_enter Tryz.func89, Tryz.ntmps89
    go_wp2_with fail
    go_ret2
    exact ⟨rfl, rfl⟩
  have hm : mlen y m < d := by omega
  clear h'
  go_enter Tryz.func89, Tryz.ntmps89
  go_wp2_with (go_at_call 120; refine (mlen_any _ _ _ (by omega) (by omega)).mono ?_; rintro e w' ⟨rfl, rfl⟩)
  go_ret2
  exact ⟨rfl, rfl⟩

set_option maxHeartbeats 1000000 in
theorem days_yes (y m d : Int) (w : World) (h : dayOk y m d = true) : Calls Tryz.prog 89 #[.int .i64 y, .int .i64 m, .int .i64 d] w fun e w' => e = .returned (.tuple #[.int .i64 (dayNum y m d), .bool true]) ∧ w = w' := by
  obtain ⟨h0, h1, h2, h3⟩ : 0 ≤ y ∧ y ≤ 9999 ∧ 1 ≤ d ∧ d ≤ mlen y m := by simpa [dayOk] using h
  clear h
  have hl := mlen_bd y m
  obtain ⟨m1, m2⟩ := mlen_pos y m (by omega)
  have b1 := before_bd y (by omega) (by omega)
  have b2 := before_bd 1970 (by omega) (by omega)
  go_enter Tryz.func89, Tryz.ntmps89
  go_wp2_with first | (go_at_call 120; refine (mlen_any _ _ _ (by omega) (by omega)).mono ?_; rintro e w' ⟨rfl, rfl⟩) | (go_at_call 121; refine (before_any _ _ (by omega) (by omega)).mono ?_; rintro e w' ⟨rfl, rfl⟩)
  have b3 : ∀ j : Int, 1 ≤ j → j ≤ 13 → 0 ≤ cum y j ∧ cum y j ≤ 400 := cum_bd y
  go_loop [8, 9] (fun n k => ∃ j : Int, 1 ≤ j ∧ j ≤ m ∧ k = .int .i64 j ∧ n = .int .i64 (before y - before 1970 + d - 1 + cum y j)) (fun _ k => (m - intOf k).toNat)
  case atStart => exact ⟨1, by omega, by omega, rfl, by simp [cum, cumN]⟩
  case round =>
    obtain ⟨j, j1, j2, rfl, rfl⟩ := hrel
    have b4 := b3 j j1 (by omega)
    have b5 := mlen_bd y j
    have HS := Lib.hid (cum_step y j j1)
    clear b3
    by_cases hj : j < m
    · go_wp2_with (go_at_call 120; refine (mlen_any _ _ _ (by omega) (by omega)).mono ?_; rintro e w' ⟨rfl, rfl⟩)
      go_round
      case rel => exact ⟨j + 1, by omega, by omega, rfl, by rw [HS.out]; simp; omega⟩
      case measure => simp [intOf]; omega
    · go_wp2
      go_ret2
      obtain rfl : j = m := by omega
      exact ⟨rfl, rfl⟩

theorem weekday_bd (n : Int) : 0 ≤ ((n % 7 + 7) % 7 + 3) % 7 := by omega
def weekday (n : Int) : Int := (n + 3) % 7
set_option maxHeartbeats 1000000 in
theorem weekday_any (n : Int) (w : World) (h0 : -1000000000 ≤ n) (h1 : n ≤ 1000000000) : Calls Tryz.prog 90 #[.int .i64 n] w fun e w' => e = .returned (.int .i64 (weekday n)) ∧ w = w' := by
  have hb : -7 < n.tmod 7 ∧ n.tmod 7 < 7 := by
    have := Int.tmod_lt_of_pos n (b := 7) (by decide)
    have := Int.lt_tmod_of_pos n (b := 7) (by decide)
    omega
  go_enter Tryz.func90, Tryz.ntmps90
  go_wp2
  all_goals
    go_ret
    refine ⟨ret_int ?_, rfl⟩
    unfold weekday
    rw [Int.tmod_eq_emod]
    split <;> simp <;> omega

theorem before_1970 : before 1970 = 719528 := by decide
theorem before_10000 : before 10000 = 3652425 := by decide
theorem cum_13 (y : Int) : cum y 13 = 365 + (if leap y then 1 else 0) := by
  have e : (13 - 1 : Int).toNat = 12 := by decide
  unfold cum; rw [e]
  cases h : leap y <;> simp [cumN, mlen, h]
theorem cum_mono (y a b : Int) (h : 1 ≤ a) (hab : a ≤ b) : cum y a ≤ cum y b := by
  obtain ⟨n, rfl⟩ : ∃ n : Nat, b = a + n := ⟨(b - a).toNat, by omega⟩
  clear hab
  induction n with
  | zero => simp
  | succ n ih =>
    have e : a + ((n + 1 : Nat) : Int) = a + n + 1 := by omega
    rw [e, cum_step y (a + n) (by omega)]
    have := mlen_bd y (a + n)
    omega
/-- What civil.Date tells of a day: its year is right. -/
def YearOf (n : Int) (w : World) (e : Ending) (w' : World) : Prop :=
  ∃ y m d : Int, e = .returned (.tuple #[.int .i64 y, .int .i64 m, .int .i64 d, .bool true]) ∧ 0 ≤ y ∧ y ≤ 9999 ∧ before y ≤ n + 719528 ∧ n + 719528 < before (y + 1) ∧ w = w'
theorem before_guess (k : Int) (h : 0 ≤ k) (h1 : k ≤ 3652424) : before (k / 366) ≤ k := by unfold before; split <;> omega
set_option maxHeartbeats 2000000 in
theorem date_any (n : Int) (w : World) (h1 : 0 ≤ n) (h2 : n ≤ 2555000) : Calls Tryz.prog 122 #[.int .i64 n] w (YearOf n w) := by
  have H7 := Lib.hid before_1970
  have H8 := Lib.hid before_10000
  have g0 := before_guess (n + 719528) (by omega) (by omega)
  have hbe : ∀ (x : Int) (w : World), x = 1970 → Calls Tryz.prog 121 #[.int .i64 x] w fun e w' => e = .returned (.int .i64 719528) ∧ w = w' := fun x w hx => by
    subst hx; rw [← H7.out]; exact before_any _ _ (by omega) (by omega)
  have hbt : ∀ (x : Int) (w : World), x = 10000 → Calls Tryz.prog 121 #[.int .i64 x] w fun e w' => e = .returned (.int .i64 3652425) ∧ w = w' := fun x w hx => by
    subst hx; rw [← H8.out]; exact before_any _ _ (by omega) (by omega)
  have HE := Lib.hid hbe; clear hbe
  have HT := Lib.hid hbt; clear hbt
  go_enter Tryz.func122, Tryz.ntmps122
  go_wp2_with fail
  refine (HE.out _ _ rfl).mono ?_
  rintro e w' ⟨rfl, rfl⟩
  go_wp2_with fail
  refine (HT.out _ _ rfl).mono ?_
  rintro e w' ⟨rfl, rfl⟩
  go_wp2_with fail
  refine (HE.out _ _ rfl).mono ?_
  rintro e w' ⟨rfl, rfl⟩
  go_wp2_with fail
  go_loop [2] (fun t => ∃ y : Int, 0 ≤ y ∧ y ≤ 9999 ∧ before y ≤ n + 719528 ∧ t = .int .i64 y) (fun t => (9999 - intOf t).toNat)
  case atStart => exact ⟨_, by omega, by omega, g0, rfl⟩
  case round =>
    obtain ⟨y, y0, y1, y2, rfl⟩ := hrel
    have bs := before_bd (y + 1) (by omega) (by omega)
    by_cases hc : before (y + 1) ≤ n + 719528
    · have hy : y < 9999 := by
        by_cases e : y = 9999
        · subst e; have := H8.out; simp at hc; omega
        · omega
      go_wp2_with (go_at_call 121; refine (before_any _ _ (by omega) (by omega)).mono ?_; rintro e w' ⟨rfl, rfl⟩)
      go_round
      case rel => exact ⟨y + 1, by omega, by omega, hc, rfl⟩
      case measure => simp [intOf]; omega
    · have hlt : n + 719528 < before (y + 1) := by omega
      have hb0 := before_bd y (by omega) (by omega)
      have HS := before_succ y y0
      have H13 := cum_13 y
      have h13 : n + 719528 - before y < cum y 13 := by rw [H13]; omega
      have H13' := Lib.hid H13; clear H13
      have HS' := Lib.hid HS; clear HS
      go_wp2_with (go_at_call 121; refine (before_any _ _ (by omega) (by omega)).mono ?_; rintro e w' ⟨rfl, rfl⟩)
      go_loop [3, 8] (fun k r => ∃ m : Int, 1 ≤ m ∧ m ≤ 12 ∧ k = .int .i64 m ∧ 0 ≤ n + 719528 - before y - cum y m ∧ r = .int .i64 (n + 719528 - before y - cum y m)) (fun k _ => (12 - intOf k).toNat)
      case atStart => exact ⟨1, by omega, by omega, rfl, by simp [cum, cumN]; omega, by simp [cum, cumN]⟩
      case round =>
        obtain ⟨m, m1, m2, rfl, r0, rfl⟩ := hrel
        have hm := mlen_bd y m
        have cb := cum_bd y m (by omega) (by omega)
        have CS := Lib.hid (cum_step y m m1)
        by_cases hd : mlen y m ≤ n + 719528 - before y - cum y m
        · have hm12 : m < 12 := by
            by_cases e : m = 12
            · have := CS.out; subst e; simp at this; omega
            · omega
          go_wp2_with (go_at_call 120; refine (mlen_any _ _ _ (by omega) (by omega)).mono ?_; rintro e w' ⟨rfl, rfl⟩)
          go_round
          case rel => exact ⟨m + 1, by omega, by omega, rfl, by rw [CS.out]; omega, by rw [CS.out]; simp; omega⟩
          case measure => simp [intOf]; omega
        · go_wp2_with (go_at_call 120; refine (mlen_any _ _ _ (by omega) (by omega)).mono ?_; rintro e w' ⟨rfl, rfl⟩)
          exact bodyPost_ret (v := .tuple #[.int .i64 y, .int .i64 m, .int .i64 (n + 719528 - before y - cum y m + 1), .bool true]) (by simp [results, Tryz.results122, go_sem]) rfl ⟨y, m, _, rfl, y0, y1, y2, hlt, rfl⟩
end Go.Proofs.YtelgjeeleofgoaaGreatDoor

/- Package date: texts of moments. -/
namespace Go.Proofs.YtelgjeeleofgoaaGreatDoor
open Go.RowKit
set_option linter.unusedSimpArgs false
set_option linter.unusedVariables false

def numberM (s : ByteArray) (size : Int) : Int := if (s.size : Int) = size ∧ digs s.data.toList = true then numv s.data.toList else -1
set_option maxHeartbeats 1000000 in
theorem number_any (s : ByteArray) (size : Int) (w : World) (hsz : size ≤ 8) (hs : s.size ≤ 9223372036854775807) :
    Calls Tryz.prog 87 #[.string s, .int .i64 size] w fun e w' => e = .returned (.int .i64 (numberM s size)) ∧ Below w.heap.size w w' := by
  by_cases hl : (s.size : Int) = size
  · have hl' : ((s.size : Int) != size) = false := by simp [hl]
    have hL := Lib.hid hl
    have hs8 : s.size ≤ 8 := by omega
    clear hl
    go_enter Tryz.func87, Tryz.ntmps87
    go_wp2
    go_loopw [5] (fun n wr => ∃ pos : Nat, pos ≤ s.size ∧ wr = w.iter s pos ∧ n = .int .i64 (numv (s.data.toList.take pos)) ∧ digs (s.data.toList.take pos) = true) (fun _ wr => s.size - wr.iterPos w.heap.size)
    case atStart => exact ⟨0, Nat.zero_le _, rfl, rfl, rfl⟩
    case round =>
      obtain ⟨pos, hp, rfl, rfl, hd⟩ := hrel
      have hb := numv_bd 8 (s.data.toList.take pos) (by simp; omega) hd
      by_cases hlt : pos < s.size
      · have ts := take_snoc s pos hlt
        by_cases hdg : dig s[pos] = true
        · have hc := dig_yes s pos hlt hdg
          have hnx := fun ty => run_next_ascii (P := Tryz.prog) w s pos ty hlt (by omega)
          have HN := Lib.hid (numv_snoc (s.data.toList.take pos) s[pos])
          have HD := Lib.hid (digs_snoc (s.data.toList.take pos) s[pos])
          have HT := Lib.hid ts; clear ts
          have HG := Lib.hid hdg; clear hdg
          have HE := Lib.hid hd; clear hd
          go_wp2
          go_roundw
          case rel => exact ⟨pos + 1, by omega, rfl, by rw [HT.out, HN.out], by rw [HT.out, HD.out, HE.out, HG.out]; rfl⟩
          case measure => simp; omega
        · have hdg' : dig s[pos] = false := by simpa using hdg
          have hr := rune_no s pos hlt hdg'
          have hnx := fun ty => run_next_any (P := Tryz.prog) w s pos ty hlt
          have hfin : numberM s size = -1 := by unfold numberM; rw [digs_not s pos hlt hdg']; simp
          have HF := Lib.hid hfin; clear hfin ts hdg hdg' hd hb
          generalize (Utf8.decode s pos).1 = r at *
          go_wp2
          all_goals
            go_ret
            exact ⟨ret_int HF.out.symm, ((Below.refl _ _).alloc (Nat.le_refl _) _)⟩
      · have hnx := fun ty => run_next_end (P := Tryz.prog) w s pos ty hlt
        have ta := take_all s pos (by omega)
        have hfin : numberM s size = numv (s.data.toList.take pos) := by unfold numberM; rw [ta] at hd ⊢; rw [if_pos ⟨hL.out, hd⟩]
        have HF := Lib.hid hfin; clear hfin ta hd
        go_wp2
        go_ret
        exact ⟨ret_int HF.out.symm, ((Below.refl _ _).alloc (Nat.le_refl _) _)⟩
  · have hl' : ((s.size : Int) != size) = true := by simpa using hl
    have hfin : numberM s size = -1 := by unfold numberM; rw [if_neg (fun h => hl h.1)]
    have HF := Lib.hid hfin; clear hfin hl
    go_enter Tryz.func87, Tryz.ntmps87
    go_wp2
    go_ret
    exact ⟨ret_int HF.out.symm, Below.refl _ _⟩

/-- The pieces of a text between the instances of a sign. -/
def pieces (sep s : ByteArray) : List ByteArray := Lib.splitB sep 0 (Lib.countB s sep) s
theorem pieces_le (sep : ByteArray) : ∀ (k : Nat) (s p : ByteArray), p ∈ Lib.splitB sep 0 k s → p.size ≤ s.size := by
  intro k
  induction k with
  | zero => intro s p h; simp [Lib.splitB] at h; rw [h]; omega
  | succ k ih =>
    intro s p h
    unfold Lib.splitB at h
    split at h
    · simp at h; rw [h]; omega
    · rcases List.mem_cons.1 h with rfl | h
      · simp only [ByteArray.size_extract]; omega
      · have := ih _ _ h; simp only [ByteArray.size_extract] at this; omega
/-- A new row of texts: the block number of the old heap's size holds L. -/
structure NewRow (w w' : World) (L : List ByteArray) : Prop where
  below : Below w.heap.size w w'
  lt : w.heap.size < w'.heap.size
  cell : ∀ j, j < L.length → w'.cell? ⟨w.heap.size, j, none⟩ = some (.string (L.getD j ByteArray.empty))
theorem NewRow.mk_alloc (w : World) (L : List ByteArray) (t : TypeId) : NewRow w (w.alloc (.cells (L.map Value.string).toArray t)) L where
  below := (Below.refl _ _).alloc (Nat.le_refl _) _
  lt := by simp
  cell := fun j hj => by
    rw [World.cell?_alloc_at _ _ _ _ (by rfl)]
    simp [hj]
theorem pieces_any (sep s : ByteArray) (w : World) (hG : Glob w) (hs : s.size < 4294967281) (h1 : 1 ≤ sep.size) :
    Calls Tryz.prog 83 #[.string s, .string sep] w fun e w' =>
      e = .returned (.slice (some ⟨w.heap.size, 0, none⟩) (pieces sep s).length (pieces sep s).length) ∧ NewRow w w' (pieces sep s) := by
  obtain ⟨m, hm⟩ := hG.maxLen
  have hl := Lib.splitB_all sep h1 0 _ s rfl
  refine (Tryz.strings_Split s sep m w hs hm h1).mono ?_
  rintro e w' ⟨rfl, rfl⟩
  unfold pieces
  rw [hl]
  exact ⟨rfl, NewRow.mk_alloc _ _ _⟩

theorem numberM_bd (s : ByteArray) (h : s.size ≤ 8) (size : Int) : -1 ≤ numberM s size ∧ numberM s size ≤ 99999999 := by
  unfold numberM
  split
  · rename_i h'; have := numv_bd 8 s.data.toList (by simpa using h) h'.2; omega
  · omega
theorem numberM_bd' (s : ByteArray) (size : Int) (h : size ≤ 8) : -1 ≤ numberM s size ∧ numberM s size ≤ 99999999 := by
  by_cases e : (s.size : Int) = size
  · exact numberM_bd s (by omega) size
  · unfold numberM; rw [if_neg (fun h => e h.1)]; omega
/-- Three texts at the head of a new row; what a region that reads them keeps. -/
abbrev Three (w : World) (a b c : ByteArray) (W : World) : Prop := Below w.heap.size w W ∧ w.heap.size < W.heap.size ∧ W.cell? ⟨w.heap.size, 0, none⟩ = some (.string a) ∧ W.cell? ⟨w.heap.size, 1, none⟩ = some (.string b) ∧ W.cell? ⟨w.heap.size, 2, none⟩ = some (.string c)
theorem Three.drew_ {w W : World} {a b c : ByteArray} (h : Three w a b c W) : Three w a b c W.drew := ⟨h.1.drew, h.2⟩
theorem Three.next {w W W' : World} {a b c : ByteArray} (h : Three w a b c W) (hb : Below W.heap.size W W') : Three w a b c W' := by
  obtain ⟨h1, h2, h3, h4, h5⟩ := h
  exact ⟨h1.trans (hb.mono (by omega)), Nat.lt_of_lt_of_le h2 hb.size, (hb.cell (p := ⟨_, _, _⟩) h2).trans h3, (hb.cell (p := ⟨_, _, _⟩) h2).trans h4, (hb.cell (p := ⟨_, _, _⟩) h2).trans h5⟩
def clockM (s : ByteArray) : Int :=
  match pieces ⟨#[58]⟩ s with
  | [a, b, c] =>
    let h := numberM a 2
    let m := numberM b 2
    let n := numberM c 2
    if h < 0 ∨ 23 < h ∨ m < 0 ∨ 59 < m ∨ n < 0 ∨ 59 < n then -1 else (h * 60 + m) * 60 + n
  | _ => -1
theorem bad_len (n : Nat) (h : n ≠ 3) : ((n : Int) != 3) = true := by rw [bne_iff_ne]; omega
set_option maxHeartbeats 4000000 in
theorem clock_any (s : ByteArray) (w : World) (hG : Glob w) (hs : s.size < 4294967281) :
    Calls Tryz.prog 88 #[.string s] w fun e w' => e = .returned (.int .i64 (clockM s)) ∧ Below w.heap.size w w' := by
  have hP := pieces_any ⟨#[58]⟩ s w hG hs (by decide)
  have hle : ∀ p ∈ pieces ⟨#[58]⟩ s, p.size ≤ s.size := fun p hp => pieces_le _ _ _ _ hp
  by_cases hL : (pieces ⟨#[58]⟩ s).length = 3
  · match hp : pieces ⟨#[58]⟩ s, hL with
    | [a, b, c], _ =>
      rw [hp] at hP hle
      have ha := hle a (by simp)
      have hb := hle b (by simp)
      have hc := hle c (by simp)
      have hfin : clockM s = (let h := numberM a 2; let m := numberM b 2; let n := numberM c 2; if h < 0 ∨ 23 < h ∨ m < 0 ∨ 59 < m ∨ n < 0 ∨ 59 < n then -1 else (h * 60 + m) * 60 + n) := by unfold clockM; rw [hp]
      have HF := Lib.hid hfin
      have HP := Lib.hid hP
      clear hP hle hfin hL hp
      go_enter Tryz.func88, Tryz.ntmps88
      go_wp2_with fail
      refine HP.out.mono ?_
      rintro e w1 ⟨rfl, hN⟩
      obtain ⟨hB, hz, hcell⟩ := hN
      have c0 := hcell 0 (by simp)
      have c1 := hcell 1 (by simp)
      have c2 := hcell 2 (by simp)
      simp only [List.getD_cons_zero, List.getD_cons_succ] at c0 c1 c2
      clear hcell
      go_wp2_with fail
      go_region_held3 (fun W => Below w.heap.size w W ∧ w.heap.size < W.heap.size ∧ W.cell? ⟨w.heap.size, 0, none⟩ = some (.string a) ∧ W.cell? ⟨w.heap.size, 1, none⟩ = some (.string b) ∧ W.cell? ⟨w.heap.size, 2, none⟩ = some (.string c)) (first | exact Three.drew_ ⟨by assumption, by assumption, by assumption, by assumption, by assumption⟩ | exact Three.next (by assumption) hb | (go_split_ands; exact Three.next ⟨by assumption, by assumption, by assumption, by assumption, by assumption⟩ hb)) ((go_at_call 87; refine (number_any _ _ _ (by omega) (by omega)).mono ?_; rintro e w' ⟨rfl, hb⟩))
      rename_i hS
      have hB := hS.1
      have n1 := numberM_bd' a 2 (by omega)
      have n2 := numberM_bd' b 2 (by omega)
      have n3 := numberM_bd' c 2 (by omega)
      clear hS
      generalize numberM a 2 = h at *
      generalize numberM b 2 = m at *
      generalize numberM c 2 = n at *
      by_cases k1 : h < 0
      · go_wp2_with fail
        go_ret
        exact ⟨ret_int (by rw [HF.out, if_pos (by omega)]), hB⟩
      by_cases k2 : 23 < h
      · go_wp2_with fail
        go_ret
        exact ⟨ret_int (by rw [HF.out, if_pos (by omega)]), hB⟩
      by_cases k3 : m < 0
      · go_wp2_with fail
        go_ret
        exact ⟨ret_int (by rw [HF.out, if_pos (by omega)]), hB⟩
      by_cases k4 : 59 < m
      · go_wp2_with fail
        go_ret
        exact ⟨ret_int (by rw [HF.out, if_pos (by omega)]), hB⟩
      by_cases k5 : n < 0
      · go_wp2_with fail
        go_ret
        exact ⟨ret_int (by rw [HF.out, if_pos (by omega)]), hB⟩
      by_cases k6 : 59 < n
      · go_wp2_with fail
        go_ret
        exact ⟨ret_int (by rw [HF.out, if_pos (by omega)]), hB⟩
      go_wp2_with fail
      go_ret
      exact ⟨ret_int (by rw [HF.out, if_neg (by omega)]), hB⟩
  · have HB := bad_len _ hL
    have hfin : clockM s = -1 := by
      unfold clockM
      split
      · rename_i h; rw [h] at hL; simp at hL
      · rfl
    have HF := Lib.hid hfin
    have HP := Lib.hid hP
    clear hP hle hfin hL
    go_enter Tryz.func88, Tryz.ntmps88
    go_wp2_with fail
    refine HP.out.mono ?_
    rintro e w' ⟨rfl, hN⟩
    have hB := hN.below
    clear hN
    go_wp2_with fail
    go_ret
    exact ⟨ret_int HF.out.symm, hB⟩

theorem cntF_len : ∀ (l : List UInt8) (ws : Bool), Lib.cntF ws l ≤ l.length
  | [], _ => Nat.le_refl _
  | b :: t, ws => by
    have := cntF_len t (Lib.isSp b)
    simp only [Lib.cntF, List.length_cons]
    split <;> omega
def amongM (l x : ByteArray) : Int := Lib.idxOfS ((Lib.fields l.data.toList).map fun y => (⟨y.toArray⟩ : ByteArray)) x
set_option maxHeartbeats 1000000 in
theorem among_any (l x : ByteArray) (w : World) (hG : Glob w) (hl : l.size < 4294967281) (ha : ∀ (j : Nat) b, l.data.toList[j]? = some b → b.toNat < 128) :
    Calls Tryz.prog 85 #[.string l, .string x] w fun e w' => e = .returned (.int .i64 (amongM l x)) ∧ Below w.heap.size w w' := by
  have hF : Calls Tryz.prog 118 #[.string l] w fun e w' => e = .returned (.slice (some ⟨w.heap.size, 0, none⟩) (Lib.fields l.data.toList).length (Lib.fields l.data.toList).length) ∧ NewRow w w' ((Lib.fields l.data.toList).map fun y => (⟨y.toArray⟩ : ByteArray)) := by
    refine (Tryz.strings_Fields l w hl ha hG.space).mono ?_
    rintro e w' ⟨rfl, rfl⟩
    refine ⟨rfl, ?_⟩
    have := NewRow.mk_alloc w ((Lib.fields l.data.toList).map fun y => (⟨y.toArray⟩ : ByteArray)) 9
    rw [List.map_map] at this
    exact this
  have hlen : ((Lib.fields l.data.toList).map fun y => (⟨y.toArray⟩ : ByteArray)).length = (Lib.fields l.data.toList).length := by simp
  have hbig : (Lib.fields l.data.toList).length ≤ l.size := by
    have := Lib.fieldsGo_length l.data.toList []
    have h2 := cntF_len l.data.toList true
    unfold Lib.fields
    rw [this]; simpa using h2
  have hfin : amongM l x = Lib.idxOfS (((Lib.fields l.data.toList).map fun y => (⟨y.toArray⟩ : ByteArray)).take (Lib.fields l.data.toList).length) x := by
    unfold amongM; rw [List.take_of_length_le (by omega)]
  have HF := Lib.hid hF
  have HL := Lib.hid hlen
  have HX := Lib.hid hfin
  clear hF hlen hfin
  generalize (Lib.fields l.data.toList).map (fun y => (⟨y.toArray⟩ : ByteArray)) = L at *
  generalize (Lib.fields l.data.toList).length = n at *
  go_enter Tryz.func85, Tryz.ntmps85
  go_wp2_with fail
  refine HF.out.mono ?_
  rintro e w1 ⟨rfl, hN⟩
  obtain ⟨hB, hz, hcell⟩ := hN
  have HC := Lib.hid hcell
  clear hcell
  go_wp2_with fail
  refine (Tryz.slices_Index_string w.heap.size 0 n n L x w1 (by rw [HL.out]; omega) (by omega) (fun j hj => by simpa using HC.out j hj)).mono ?_
  rintro e w' ⟨rfl, rfl⟩
  go_wp2_with fail
  go_ret
  exact ⟨ret_int HX.out.symm, hB⟩

/-- A moment's parts as a value. -/
abbrev partsV (wd y m d c : Int) : Value := .agg #[.int .i64 wd, .int .i64 y, .int .i64 m, .int .i64 d, .int .i64 c]
def secsOk (wd y m d c : Int) : Bool := dayOk y m d && decide (0 ≤ c) && decide (weekday (dayNum y m d) = wd)
def secsM (wd y m d c : Int) : Int := dayNum y m d * 86400 + c
theorem dayNum_bd (y m d : Int) (h : dayOk y m d = true) : -719528 ≤ dayNum y m d ∧ dayNum y m d ≤ 3000000 := by
  obtain ⟨h0, h1, h2, h3⟩ : 0 ≤ y ∧ y ≤ 9999 ∧ 1 ≤ d ∧ d ≤ mlen y m := by simpa [dayOk] using h
  have hl := mlen_bd y m
  obtain ⟨m1, m2⟩ := mlen_pos y m (by omega)
  have b1 := before_bd y (by omega) (by omega)
  have b2 := cum_bd y m m1 (by omega)
  have b3 := before_mono y 9999 h0 h1
  have b4 : before 9999 = 3652060 := by decide
  unfold dayNum; rw [before_1970]; omega
set_option maxHeartbeats 2000000 in
theorem secs_any (wd y m d c : Int) (w : World) (hc : -1 ≤ c) (hc1 : c ≤ 86399) :
    Calls Tryz.prog 54 #[partsV wd y m d c] w fun e w' => e = .returned (if secsOk wd y m d c then .tuple #[.int .i64 (secsM wd y m d c), .bool true] else .tuple #[.int .i64 0, .bool false]) ∧ Below w.heap.size w w' := by
  cases hd : dayOk y m d with
  | false =>
    have hfin : secsOk wd y m d c = false := by simp [secsOk, hd]
    rw [hfin]
    clear hfin
    go_enter Tryz.func54, Tryz.ntmps54
    go_wp2_with (go_at_call 89; refine (days_no _ _ _ _ hd).mono ?_; rintro e w' ⟨rfl, rfl⟩)
    go_quiet (fail)
    go_wp2_with fail
    go_ret2
    exact ⟨rfl, bdrewN ((Below.refl _ _).alloc (Nat.le_refl _) _) _⟩
  | true =>
    have hb := dayNum_bd y m d hd
    have HD := Lib.hid hd
    clear hd
    by_cases h0 : c < 0
    · have hfin : secsOk wd y m d c = false := by have : decide (0 ≤ c) = false := by simp; omega
                                                  simp [secsOk, this]
      rw [hfin]
      clear hfin
      go_enter Tryz.func54, Tryz.ntmps54
      go_wp2_with (go_at_call 89; refine (days_yes _ _ _ _ HD.out).mono ?_; rintro e w' ⟨rfl, rfl⟩)
      go_quiet (fail)
      go_wp2_with fail
      go_ret2
      exact ⟨rfl, bdrewN ((Below.refl _ _).alloc (Nat.le_refl _) _) _⟩
    · have h0' : 0 ≤ c := by omega
      by_cases hw : weekday (dayNum y m d) = wd
      · have hfin : secsOk wd y m d c = true := by simp [secsOk, HD.out, h0', hw]
        rw [hfin]
        have hw' : (weekday (dayNum y m d) != wd) = false := by simpa using hw
        have hsec : secsM wd y m d c = dayNum y m d * 86400 + c := rfl
        have HS := Lib.hid hsec
        clear hfin hw hsec
        generalize hn : dayNum y m d = n at *
        have HN := Lib.hid hn
        clear hn
        go_enter Tryz.func54, Tryz.ntmps54
        go_wp2_with (go_at_call 89; refine (days_yes _ _ _ _ HD.out).mono ?_; rw [HN.out]; rintro e w' ⟨rfl, rfl⟩)
        go_quiet ((go_at_call 90; exact Calls.quiet_of_same ((weekday_any _ _ (by omega) (by omega)).mono (fun e w' h => ⟨h.1, h.2.symm⟩))))
        go_wp2_with fail
        go_ret2
        exact ⟨by rw [HS.out]; rfl, bdrewN ((Below.refl _ _).alloc (Nat.le_refl _) _) _⟩
      · have hfin : secsOk wd y m d c = false := by simp [secsOk, hw]
        rw [hfin]
        have hw' : (weekday (dayNum y m d) != wd) = true := by simpa using hw
        clear hfin hw
        generalize hn : dayNum y m d = n at *
        have HN := Lib.hid hn
        clear hn
        go_enter Tryz.func54, Tryz.ntmps54
        go_wp2_with (go_at_call 89; refine (days_yes _ _ _ _ HD.out).mono ?_; rw [HN.out]; rintro e w' ⟨rfl, rfl⟩)
        go_quiet ((go_at_call 90; exact Calls.quiet_of_same ((weekday_any _ _ (by omega) (by omega)).mono (fun e w' h => ⟨h.1, h.2.symm⟩))))
        go_wp2_with fail
        go_ret2
        exact ⟨rfl, bdrewN ((Below.refl _ _).alloc (Nat.le_refl _) _) _⟩
end Go.Proofs.YtelgjeeleofgoaaGreatDoor

/- Package date: the three forms of a moment's text. -/
namespace Go.Proofs.YtelgjeeleofgoaaGreatDoor
open Go.RowKit
set_option linter.unusedSimpArgs false
set_option linter.unusedVariables false

def cMonths : ByteArray := ⟨#[74, 97, 110, 32, 70, 101, 98, 32, 77, 97, 114, 32, 65, 112, 114, 32, 77, 97, 121, 32, 74, 117, 110, 32, 74, 117, 108, 32, 65, 117, 103, 32, 83, 101, 112, 32, 79, 99, 116, 32, 78, 111, 118, 32, 68, 101, 99]⟩
def cShort : ByteArray := ⟨#[77, 111, 110, 32, 84, 117, 101, 32, 87, 101, 100, 32, 84, 104, 117, 32, 70, 114, 105, 32, 83, 97, 116, 32, 83, 117, 110]⟩
def cLong : ByteArray := ⟨#[77, 111, 110, 100, 97, 121, 32, 84, 117, 101, 115, 100, 97, 121, 32, 87, 101, 100, 110, 101, 115, 100, 97, 121, 32, 84, 104, 117, 114, 115, 100, 97, 121, 32, 70, 114, 105, 100, 97, 121, 32, 83, 97, 116, 117, 114, 100, 97, 121, 32, 83, 117, 110, 100, 97, 121]⟩
def cGMT : ByteArray := ⟨#[71, 77, 84]⟩
def comma : ByteArray := ⟨#[44]⟩
def space : ByteArray := ⟨#[32]⟩
def dash : ByteArray := ⟨#[45]⟩

theorem ascii_of {l : ByteArray} (h : l.data.toList.all (fun b => decide (b.toNat < 128)) = true) : ∀ (j : Nat) b, l.data.toList[j]? = some b → b.toNat < 128 := by
  intro j b hb
  have := List.all_eq_true.1 h b (List.mem_of_getElem? hb)
  simpa using this
theorem among_months (x : ByteArray) (w : World) (hG : Glob w) : Calls Tryz.prog 85 #[.string cMonths, .string x] w fun e w' => e = .returned (.int .i64 (amongM cMonths x)) ∧ Below w.heap.size w w' :=
  among_any _ _ _ hG (by decide) (ascii_of (by decide))
theorem among_short (x : ByteArray) (w : World) (hG : Glob w) : Calls Tryz.prog 85 #[.string cShort, .string x] w fun e w' => e = .returned (.int .i64 (amongM cShort x)) ∧ Below w.heap.size w w' :=
  among_any _ _ _ hG (by decide) (ascii_of (by decide))
theorem among_long (x : ByteArray) (w : World) (hG : Glob w) : Calls Tryz.prog 85 #[.string cLong, .string x] w fun e w' => e = .returned (.int .i64 (amongM cLong x)) ∧ Below w.heap.size w w' :=
  among_any _ _ _ hG (by decide) (ascii_of (by decide))
theorem idxOfS_bd (L : List ByteArray) (x : ByteArray) : -1 ≤ Lib.idxOfS L x ∧ Lib.idxOfS L x ≤ L.length := by
  unfold Lib.idxOfS
  have : ∀ (L : List ByteArray) (i : Nat), -1 ≤ Lib.idxFromS L x i ∧ Lib.idxFromS L x i ≤ i + L.length := by
    intro L
    induction L with
    | nil => intro i; simp [Lib.idxFromS]
    | cons z L ih =>
      intro i
      have := ih (i + 1)
      unfold Lib.idxFromS
      split
      · simp; omega
      · simp only [List.length_cons]; omega
  simpa using this L 0
theorem amongM_bd (l x : ByteArray) (h : l.size ≤ 100) : -1 ≤ amongM l x ∧ amongM l x ≤ 100 := by
  have h1 := idxOfS_bd ((Lib.fields l.data.toList).map fun y => (⟨y.toArray⟩ : ByteArray)) x
  have h2 := Lib.fieldsGo_length l.data.toList []
  have h3 := cntF_len l.data.toList true
  have h4 : l.data.toList.length = l.size := by simp
  rw [List.length_map] at h1
  unfold amongM
  unfold Lib.fields at *
  simp only [List.isEmpty_nil, if_true] at h2
  omega
theorem clockM_bd (s : ByteArray) : -1 ≤ clockM s ∧ clockM s ≤ 86399 := by
  unfold clockM
  split
  · dsimp only; split <;> omega
  · omega

abbrev P5 := Int × Int × Int × Int × Int
def firstM (s : ByteArray) : Option P5 :=
  match pieces space s with
  | [a, b, c, d, e, f] =>
    if f = cGMT ∧ Lib.hasSuffix a.data.toList comma.data.toList = true then
      some (amongM cShort (bs (Lib.trimSuffix a.data.toList comma.data.toList)), numberM d 4, 1 + amongM cMonths c, numberM b 2, clockM e)
    else none
  | _ => none

theorem trimSuffix_any (s p : ByteArray) (w : World) (hs : s.size ≤ 9223372036854775807) : Calls Tryz.prog 86 #[.string s, .string p] w fun e w' => e = .returned (.string (bs (Lib.trimSuffix s.data.toList p.data.toList))) ∧ w = w' :=
  (Tryz.strings_TrimSuffix s p w hs).mono fun _ _ h => ⟨h.1, h.2.symm⟩
theorem hasSuffix_any (s p : ByteArray) (w : World) (hs : s.size ≤ 9223372036854775807) : Calls Tryz.prog 84 #[.string s, .string p] w fun e w' => e = .returned (.bool (Lib.hasSuffix s.data.toList p.data.toList)) ∧ w = w' :=
  (Tryz.strings_HasSuffix s p w hs).mono fun _ _ h => ⟨h.1, h.2.symm⟩

/-- What a cell holds (no rewriting rule of its own). -/
def cellOr (W : World) (b i : Nat) : Value := match W.cell? ⟨b, i, none⟩ with | some v => v | none => undef
theorem cellOr_of {W : World} {b i : Nat} {v : Value} (h : W.cell? ⟨b, i, none⟩ = some v) : W.cell? ⟨b, i, none⟩ = some (cellOr W b i) := by unfold cellOr; rw [h]
/-- What a region keeps that reads five texts in the row of block k, calls, and stores into the five cells of the result's block b. -/
abbrev KF (w : World) (k b : Nat) (A B C D E : ByteArray) (W : World) : Prop :=
  Below w.heap.size w W ∧ k + 1 ≤ W.heap.size ∧ W.cell? ⟨k, 0, none⟩ = some (.string A) ∧ W.cell? ⟨k, 1, none⟩ = some (.string B) ∧ W.cell? ⟨k, 2, none⟩ = some (.string C) ∧ W.cell? ⟨k, 3, none⟩ = some (.string D) ∧ W.cell? ⟨k, 4, none⟩ = some (.string E) ∧
  W.cell? ⟨b, 0, none⟩ = some (cellOr W b 0) ∧ W.cell? ⟨b, 1, none⟩ = some (cellOr W b 1) ∧ W.cell? ⟨b, 2, none⟩ = some (cellOr W b 2) ∧ W.cell? ⟨b, 3, none⟩ = some (cellOr W b 3) ∧ W.cell? ⟨b, 4, none⟩ = some (cellOr W b 4) ∧ W.frozen? ⟨b, 0, none⟩ = false ∧ W.frozen? ⟨b, 1, none⟩ = false ∧ W.frozen? ⟨b, 2, none⟩ = false ∧ W.frozen? ⟨b, 3, none⟩ = false ∧ W.frozen? ⟨b, 4, none⟩ = false
theorem KF.drew_ {w W : World} {k b : Nat} {A B C D E : ByteArray} (h : KF w k b A B C D E W) : KF w k b A B C D E W.drew :=
  ⟨h.1.drew, h.2⟩
theorem KF.next {w W W' : World} {k b : Nat} {A B C D E : ByteArray} (h : KF w k b A B C D E W) (hb : Below W.heap.size W W') (hw : w.heap.size ≤ k + 1) (hbk : b ≤ k) : KF w k b A B C D E W' := by
  obtain ⟨g2, g3, c0, c1, c2, c3, c4, r0, r1, r2, r3, r4, f0, f1, f2, f3, f4⟩ := h
  have kk : ∀ o v, W.cell? ⟨k, o, none⟩ = some v → W'.cell? ⟨k, o, none⟩ = some v := fun o v h => (hb.cell (p := ⟨_, _, _⟩) (by show k < _; omega)).trans h
  have kb : ∀ o v, W.cell? ⟨b, o, none⟩ = some v → W'.cell? ⟨b, o, none⟩ = some (cellOr W' b o) := fun o v h => cellOr_of ((hb.cell (p := ⟨_, _, _⟩) (by show b < _; omega)).trans h)
  have kf : ∀ o, W.frozen? ⟨b, o, none⟩ = false → W'.frozen? ⟨b, o, none⟩ = false := fun o h => (hb.frozen (p := ⟨_, _, _⟩) (by show b < _; omega)).trans h
  exact ⟨g2.trans (hb.mono (by have := g2.size; omega)), Nat.le_trans g3 hb.size, kk _ _ c0, kk _ _ c1, kk _ _ c2, kk _ _ c3, kk _ _ c4, kb _ _ r0, kb _ _ r1, kb _ _ r2, kb _ _ r3, kb _ _ r4, kf _ f0, kf _ f1, kf _ f2, kf _ f3, kf _ f4⟩
theorem KF.set_ {w W : World} {k b : Nat} {A B C D E : ByteArray} (h : KF w k b A B C D E W) (o : Nat) (v : Value) (hw : w.heap.size ≤ b) (hbk : b ≠ k) : KF w k b A B C D E (W.setCell ⟨b, o, none⟩ v) := by
  obtain ⟨g2, g3, c0, c1, c2, c3, c4, r0, r1, r2, r3, r4, f0, f1, f2, f3, f4⟩ := h
  have kk : ∀ q u, W.cell? ⟨k, q, none⟩ = some u → (W.setCell ⟨b, o, none⟩ v).cell? ⟨k, q, none⟩ = some u := fun q u h => (World.cell?_setCell_other W _ _ _ (fun e => hbk (congrArg Addr.block e))).trans h
  have kb : ∀ q u, W.cell? ⟨b, q, none⟩ = some u → (W.setCell ⟨b, o, none⟩ v).cell? ⟨b, q, none⟩ = some (cellOr (W.setCell ⟨b, o, none⟩ v) b q) := fun q u h => by
    obtain ⟨u', hu'⟩ := cell?_setCell_some (p := ⟨b, o, none⟩) (x := v) h
    exact cellOr_of hu'
  have kf : ∀ q, W.frozen? ⟨b, q, none⟩ = false → (W.setCell ⟨b, o, none⟩ v).frozen? ⟨b, q, none⟩ = false := fun q h => (World.frozen?_setCell _ _ _ _).trans h
  exact ⟨g2.setCell hw _, by simpa [World.setCell] using g3, kk _ _ c0, kk _ _ c1, kk _ _ c2, kk _ _ c3, kk _ _ c4, kb _ _ r0, kb _ _ r1, kb _ _ r2, kb _ _ r3, kb _ _ r4, kf _ f0, kf _ f1, kf _ f2, kf _ f3, kf _ f4⟩

theorem cell_set (w : World) (b o : Nat) (x : Value) (h : ((w.setCell ⟨b, o, none⟩ x).cell? ⟨b, o, none⟩).isSome = true) : (w.setCell ⟨b, o, none⟩ x).cell? ⟨b, o, none⟩ = some x := by
  cases hc : w.cell? ⟨b, o, none⟩ with
  | some v => exact World.cell?_setCell_same w _ x hc
  | none =>
    exfalso
    unfold World.cell? World.setCell at h
    unfold World.cell? at hc
    simp only [Array.getElem?_modify] at h
    cases hb : w.heap[b]? with
    | none => simp [hb] at h
    | some ob =>
      cases ob <;> simp_all [Array.getElem?_setIfInBounds]
theorem cell_far (w : World) (b o q : Nat) (x : Value) (h : o ≠ q) : (w.setCell ⟨b, o, none⟩ x).cell? ⟨b, q, none⟩ = w.cell? ⟨b, q, none⟩ :=
  World.cell?_setCell_other w _ _ _ (fun e => h (congrArg Addr.off e))
/-- What five stores into a block's five cells leave there. -/
theorem five_cells (w : World) (b : Nat) (x0 x1 x2 x3 x4 : Value) (W : World) (hW : W = ((((w.setCell ⟨b, 0, none⟩ x0).setCell ⟨b, 1, none⟩ x1).setCell ⟨b, 2, none⟩ x2).setCell ⟨b, 3, none⟩ x3).setCell ⟨b, 4, none⟩ x4)
    (h0 : W.cell? ⟨b, 0, none⟩ = some (cellOr W b 0)) (h1 : W.cell? ⟨b, 1, none⟩ = some (cellOr W b 1)) (h2 : W.cell? ⟨b, 2, none⟩ = some (cellOr W b 2)) (h3 : W.cell? ⟨b, 3, none⟩ = some (cellOr W b 3)) (h4 : W.cell? ⟨b, 4, none⟩ = some (cellOr W b 4)) :
    W.cell? ⟨b, 0, none⟩ = some x0 ∧ W.cell? ⟨b, 1, none⟩ = some x1 ∧ W.cell? ⟨b, 2, none⟩ = some x2 ∧ W.cell? ⟨b, 3, none⟩ = some x3 ∧ W.cell? ⟨b, 4, none⟩ = some x4 := by
  generalize hc0 : cellOr W b 0 = y0 at h0
  generalize hc1 : cellOr W b 1 = y1 at h1
  generalize hc2 : cellOr W b 2 = y2 at h2
  generalize hc3 : cellOr W b 3 = y3 at h3
  generalize hc4 : cellOr W b 4 = y4 at h4
  clear hc0 hc1 hc2 hc3 hc4
  subst hW
  have f : ∀ {A : Type} {a : Option A} {v : A}, a = some v → a.isSome = true := fun h => by rw [h]; rfl
  refine ⟨?_, ?_, ?_, ?_, ?_⟩
  · simp only [cell_far _ _ _ _ _ (show (4 : Nat) ≠ 0 by decide), cell_far _ _ _ _ _ (show (3 : Nat) ≠ 0 by decide), cell_far _ _ _ _ _ (show (2 : Nat) ≠ 0 by decide), cell_far _ _ _ _ _ (show (1 : Nat) ≠ 0 by decide)] at h0 ⊢
    exact cell_set _ _ _ _ (f h0)
  · simp only [cell_far _ _ _ _ _ (show (4 : Nat) ≠ 1 by decide), cell_far _ _ _ _ _ (show (3 : Nat) ≠ 1 by decide), cell_far _ _ _ _ _ (show (2 : Nat) ≠ 1 by decide)] at h1 ⊢
    exact cell_set _ _ _ _ (f h1)
  · simp only [cell_far _ _ _ _ _ (show (4 : Nat) ≠ 2 by decide), cell_far _ _ _ _ _ (show (3 : Nat) ≠ 2 by decide)] at h2 ⊢
    exact cell_set _ _ _ _ (f h2)
  · simp only [cell_far _ _ _ _ _ (show (4 : Nat) ≠ 3 by decide)] at h3 ⊢
    exact cell_set _ _ _ _ (f h3)
  · exact cell_set _ _ _ _ (f h4)

set_option maxHeartbeats 8000000 in
set_option maxRecDepth 100000 in
theorem first_yes (s a b c d e f : ByteArray) (w : World) (hG : Glob w) (hs : s.size < 4294967281) (hL : pieces space s = [a, b, c, d, e, f]) (hf : f = cGMT) (ha : Lib.hasSuffix a.data.toList comma.data.toList = true) :
    Calls Tryz.prog 53 #[.string s] w fun x w' => x = .returned (.tuple #[partsV (amongM cShort (bs (Lib.trimSuffix a.data.toList comma.data.toList))) (numberM d 4) (1 + amongM cMonths c) (numberM b 2) (clockM e), .bool true]) ∧ Below w.heap.size w w' := by
  have hle : ∀ p ∈ pieces space s, p.size ≤ s.size := fun p hp => pieces_le _ _ _ _ hp
  rw [hL] at hle
  have sa := hle a (by simp)
  have sb := hle b (by simp)
  have sc := hle c (by simp)
  have sd := hle d (by simp)
  have se := hle e (by simp)
  clear hle
  have n1 := amongM_bd cMonths c (by decide)
  have hgm : cGMT.toList = [71, 77, 84] := by rw [Lib.toList_data]; rfl
  subst hf
  have HA := Lib.hid ha
  clear ha
  go_enter Tryz.func53, Tryz.ntmps53
  go_wp2_with fail
  have hP := pieces_any space s (w.alloc (.cells #[.int .i64 0, .int .i64 0, .int .i64 0, .int .i64 0, .int .i64 0] 72)) (hG.below ((Below.refl _ _).alloc (Nat.le_refl _) _)) hs (by decide)
  rw [hL] at hP
  refine hP.mono ?_
  clear hP hL
  rintro x w1 ⟨rfl, hN⟩
  obtain ⟨hB0, hz0, hcell⟩ := hN
  have hB : Below w.heap.size w w1 := ((Below.refl _ _).alloc (Nat.le_refl _) _).trans (hB0.mono (by simp))
  have hGl : Glob w1 := hG.below hB
  have ez : (w.alloc (.cells #[.int .i64 0, .int .i64 0, .int .i64 0, .int .i64 0, .int .i64 0] 72)).heap.size = w.heap.size + 1 := by simp
  rw [ez] at hz0 hcell
  clear ez
  have r0 : w1.cell? ⟨w.heap.size, 0, none⟩ = some (.int .i64 0) := (hB0.cell (p := ⟨_, _, _⟩) (by simp)).trans (by simp)
  have f0 : w1.frozen? ⟨w.heap.size, 0, none⟩ = false := (hB0.frozen (p := ⟨_, _, _⟩) (by simp)).trans (by simp)
  have r1 : w1.cell? ⟨w.heap.size, 1, none⟩ = some (.int .i64 0) := (hB0.cell (p := ⟨_, _, _⟩) (by simp)).trans (by simp)
  have f1 : w1.frozen? ⟨w.heap.size, 1, none⟩ = false := (hB0.frozen (p := ⟨_, _, _⟩) (by simp)).trans (by simp)
  have r2 : w1.cell? ⟨w.heap.size, 2, none⟩ = some (.int .i64 0) := (hB0.cell (p := ⟨_, _, _⟩) (by simp)).trans (by simp)
  have f2 : w1.frozen? ⟨w.heap.size, 2, none⟩ = false := (hB0.frozen (p := ⟨_, _, _⟩) (by simp)).trans (by simp)
  have r3 : w1.cell? ⟨w.heap.size, 3, none⟩ = some (.int .i64 0) := (hB0.cell (p := ⟨_, _, _⟩) (by simp)).trans (by simp)
  have f3 : w1.frozen? ⟨w.heap.size, 3, none⟩ = false := (hB0.frozen (p := ⟨_, _, _⟩) (by simp)).trans (by simp)
  have r4 : w1.cell? ⟨w.heap.size, 4, none⟩ = some (.int .i64 0) := (hB0.cell (p := ⟨_, _, _⟩) (by simp)).trans (by simp)
  have f4 : w1.frozen? ⟨w.heap.size, 4, none⟩ = false := (hB0.frozen (p := ⟨_, _, _⟩) (by simp)).trans (by simp)
  clear hB0
  have c0 := hcell 0 (by simp)
  have c1 := hcell 1 (by simp)
  have c2 := hcell 2 (by simp)
  have c3 := hcell 3 (by simp)
  have c4 := hcell 4 (by simp)
  have c5 := hcell 5 (by simp)
  simp only [List.getD_cons_zero, List.getD_cons_succ] at c0 c1 c2 c3 c4 c5
  clear hcell
  have hK : KF w (w.heap.size + 1) w.heap.size a b c d e w1 := ⟨hB, by omega, c0, c1, c2, c3, c4, cellOr_of r0, cellOr_of r1, cellOr_of r2, cellOr_of r3, cellOr_of r4, f0, f1, f2, f3, f4⟩
  have HK := Lib.hid hK
  clear hK hGl hB r0 r1 r2 r3 r4
  unfold cMonths at n1
  have hw1 := IntWalk.i64_in (1 + amongM ⟨#[74, 97, 110, 32, 70, 101, 98, 32, 77, 97, 114, 32, 65, 112, 114, 32, 77, 97, 121, 32, 74, 117, 110, 32, 74, 117, 108, 32, 65, 117, 103, 32, 83, 101, 112, 32, 79, 99, 116, 32, 78, 111, 118, 32, 68, 101, 99]⟩ c) (by omega)
  go_wp2_with fail
  refine (hasSuffix_any a _ _ (by omega)).mono ?_
  rintro x w' ⟨rfl, rfl⟩
  rw [show Lib.hasSuffix a.data.toList (⟨#[44]⟩ : ByteArray).data.toList = true from HA.out]
  go_wp2_with fail
  go_region_held3 (fun W => Below w.heap.size w W ∧ w.heap.size + 1 + 1 ≤ W.heap.size ∧ W.cell? ⟨w.heap.size + 1, 0, none⟩ = some (.string a) ∧ W.cell? ⟨w.heap.size + 1, 1, none⟩ = some (.string b) ∧ W.cell? ⟨w.heap.size + 1, 2, none⟩ = some (.string c) ∧ W.cell? ⟨w.heap.size + 1, 3, none⟩ = some (.string d) ∧ W.cell? ⟨w.heap.size + 1, 4, none⟩ = some (.string e) ∧ W.cell? ⟨w.heap.size, 0, none⟩ = some (cellOr W w.heap.size 0) ∧ W.cell? ⟨w.heap.size, 1, none⟩ = some (cellOr W w.heap.size 1) ∧ W.cell? ⟨w.heap.size, 2, none⟩ = some (cellOr W w.heap.size 2) ∧ W.cell? ⟨w.heap.size, 3, none⟩ = some (cellOr W w.heap.size 3) ∧ W.cell? ⟨w.heap.size, 4, none⟩ = some (cellOr W w.heap.size 4) ∧ W.frozen? ⟨w.heap.size, 0, none⟩ = false ∧ W.frozen? ⟨w.heap.size, 1, none⟩ = false ∧ W.frozen? ⟨w.heap.size, 2, none⟩ = false ∧ W.frozen? ⟨w.heap.size, 3, none⟩ = false ∧ W.frozen? ⟨w.heap.size, 4, none⟩ = false) (first | exact KF.drew_ HK.out | exact KF.next (KF.drew_ HK.out) hb (by omega) (by omega) | (with_reducible (exact KF.next (by assumption) hb (by omega) (by omega))) | (with_reducible (exact KF.set_ (KF.set_ (KF.set_ (KF.set_ (KF.set_ (by assumption) _ _ (Nat.le_refl _) (by omega)) _ _ (Nat.le_refl _) (by omega)) _ _ (Nat.le_refl _) (by omega)) _ _ (Nat.le_refl _) (by omega)) _ _ (Nat.le_refl _) (by omega)))) (first | (go_at_call 86; refine (trimSuffix_any _ _ _ (by omega)).mono ?_; rintro x w' ⟨rfl, rfl⟩) | (go_at_call 85; refine (among_any _ _ _ (hG.below (KF.drew_ HK.out).1) (by decide) (ascii_of (by decide))).mono ?_; rintro x w' ⟨rfl, hb⟩) | (go_at_call 85; refine (among_any _ _ _ (hG.below (And.left (by with_reducible assumption))) (by decide) (ascii_of (by decide))).mono ?_; rintro x w' ⟨rfl, hb⟩) | (go_at_call 87; refine (number_any _ _ _ (by omega) (by omega)).mono ?_; rintro x w' ⟨rfl, hb⟩) | (go_at_call 88; refine (clock_any _ _ (hG.below (And.left (by with_reducible assumption))) (by omega)).mono ?_; rintro x w' ⟨rfl, hb⟩))
  rename_i hH
  obtain ⟨hBe, _, _, _, _, _, _, r0, r1, r2, r3, r4, _⟩ := hH
  obtain ⟨q0, q1, q2, q3, q4⟩ := five_cells _ _ _ _ _ _ _ _ rfl r0 r1 r2 r3 r4
  clear r0 r1 r2 r3 r4
  generalize World.setCell _ _ _ = W at *
  clear HK hb n1
  try rw [hw1] at q2
  clear hw1
  go_wp2_with fail
  refine bodyPost_ret (v := .tuple #[partsV (amongM cShort (bs (Lib.trimSuffix a.data.toList comma.data.toList))) (numberM d 4) (1 + amongM cMonths c) (numberM b 2) (clockM e), .bool true]) ?_ rfl ⟨rfl, hBe⟩
  simp [results, Tryz.results53, go_sem, q0, q1, q2, q3, q4, cShort, cMonths, comma]

end Go.Proofs.YtelgjeeleofgoaaGreatDoor

/- Package date: the first form where it is none; a year of two digits. -/
namespace Go.Proofs.YtelgjeeleofgoaaGreatDoor
open Go.RowKit
set_option linter.unusedSimpArgs false
set_option linter.unusedVariables false
/-- The year in which a day lies. -/
noncomputable def yr (d : Int) : Int := Classical.epsilon fun y => 0 ≤ y ∧ before y ≤ d + 719528 ∧ d + 719528 < before (y + 1)
theorem before_lt {a b : Int} (h0 : 0 ≤ a) (h : a < b) : before (a + 1) ≤ before b := before_mono _ _ (by omega) (by omega)
theorem yr_eq {d y : Int} (h0 : 0 ≤ y) (h1 : before y ≤ d + 719528) (h2 : d + 719528 < before (y + 1)) : yr d = y := by
  have hs : 0 ≤ yr d ∧ before (yr d) ≤ d + 719528 ∧ d + 719528 < before (yr d + 1) := Classical.epsilon_spec (p := fun y => 0 ≤ y ∧ before y ≤ d + 719528 ∧ d + 719528 < before (y + 1)) ⟨y, h0, h1, h2⟩
  obtain ⟨k0, k1, k2⟩ := hs
  rcases Int.lt_trichotomy (yr d) y with h | h | h
  · have := before_lt k0 h; omega
  · exact h
  · have := before_lt h0 h; omega
noncomputable def yearM (n now : Int) : Int := if n < 0 then n else yr (now / 86400) + 50 - (yr (now / 86400) + 50 - n).tmod 100
set_option maxHeartbeats 1000000 in
theorem year_any (n now : Int) (w : World) (h0 : 0 ≤ now) (h1 : now ≤ 220752000000) (hn : -1 ≤ n) (hn1 : n ≤ 99999999) :
    Calls Tryz.prog 91 #[.int .i64 n, .int .i64 now] w fun e w' => e = .returned (.int .i64 (yearM n now)) ∧ w = w' := by
  by_cases hneg : n < 0
  · have hfin : yearM n now = n := by unfold yearM; rw [if_pos hneg]
    rw [hfin]
    clear hfin
    go_enter Tryz.func91, Tryz.ntmps91
    go_wp2_with fail
    go_ret
    exact ⟨rfl, rfl⟩
  · go_enter Tryz.func91, Tryz.ntmps91
    go_wp2_with fail
    refine (date_any _ _ (by omega) (by omega)).mono ?_
    rintro e w' ⟨y, m, d, rfl, y0, y1, y2, y3, rfl⟩
    have hy := yr_eq y0 y2 y3
    have hfin : yearM n now = y + 50 - (y + 50 - n).tmod 100 := by unfold yearM; rw [if_neg (by omega), hy]
    have HF := Lib.hid hfin
    have ht : -100 < (y + 50 - n).tmod 100 ∧ (y + 50 - n).tmod 100 < 100 := by
      have := Int.tmod_lt_of_pos (y + 50 - n) (b := 100) (by decide)
      have := Int.lt_tmod_of_pos (y + 50 - n) (b := 100) (by decide)
      omega
    clear hfin hy
    go_wp2_with fail
    all_goals
      go_ret
      exact ⟨ret_int (by rw [HF.out]), rfl⟩


set_option maxHeartbeats 4000000 in
set_option maxRecDepth 100000 in
theorem first_no (s : ByteArray) (w : World) (hG : Glob w) (hs : s.size < 4294967281) (hno : firstM s = none) :
    Calls Tryz.prog 53 #[.string s] w fun x w' => x = .returned (.tuple #[partsV 0 0 0 0 0, .bool false]) ∧ Below w.heap.size w w' := by
  have hP := fun W (hW : Glob W) => pieces_any space s W hW hs (by decide)
  have hle : ∀ p ∈ pieces space s, p.size ≤ s.size := fun p hp => pieces_le _ _ _ _ hp
  by_cases hL : (pieces space s).length = 6
  · match hp : pieces space s, hL with
    | [a, b, c, d, e, f], _ =>
    rw [hp] at hP hle
    have sa := hle a (by simp)
    unfold firstM at hno
    rw [hp] at hno
    simp only at hno
    have HP := Lib.hid hP
    clear hP hle hp hL
    by_cases hf : f = cGMT
    · have hgm : f.toList = [71, 77, 84] := by rw [hf, Lib.toList_data]; rfl
      have HA : Hid (Lib.hasSuffix a.data.toList comma.data.toList = false) := by
        refine Lib.hid ?_
        cases h : Lib.hasSuffix a.data.toList comma.data.toList with
        | false => rfl
        | true => rw [if_pos ⟨hf, h⟩] at hno; cases hno
      clear hno hf
      go_enter Tryz.func53, Tryz.ntmps53
      go_wp2_with fail
      refine (HP.out _ (hG.below ((Below.refl _ _).alloc (Nat.le_refl _) _))).mono ?_
      rintro x w1 ⟨rfl, hN⟩
      obtain ⟨hB0, hz0, hcell⟩ := hN
      have hB : Below w.heap.size w w1 := ((Below.refl _ _).alloc (Nat.le_refl _) _).trans (hB0.mono (by simp))
      have r0 : w1.cell? ⟨w.heap.size, 0, none⟩ = some (.int .i64 0) := (hB0.cell (p := ⟨_, _, _⟩) (by simp)).trans (by simp)
      have f0 : w1.frozen? ⟨w.heap.size, 0, none⟩ = false := (hB0.frozen (p := ⟨_, _, _⟩) (by simp)).trans (by simp)
      have r1 : w1.cell? ⟨w.heap.size, 1, none⟩ = some (.int .i64 0) := (hB0.cell (p := ⟨_, _, _⟩) (by simp)).trans (by simp)
      have f1 : w1.frozen? ⟨w.heap.size, 1, none⟩ = false := (hB0.frozen (p := ⟨_, _, _⟩) (by simp)).trans (by simp)
      have r2 : w1.cell? ⟨w.heap.size, 2, none⟩ = some (.int .i64 0) := (hB0.cell (p := ⟨_, _, _⟩) (by simp)).trans (by simp)
      have f2 : w1.frozen? ⟨w.heap.size, 2, none⟩ = false := (hB0.frozen (p := ⟨_, _, _⟩) (by simp)).trans (by simp)
      have r3 : w1.cell? ⟨w.heap.size, 3, none⟩ = some (.int .i64 0) := (hB0.cell (p := ⟨_, _, _⟩) (by simp)).trans (by simp)
      have f3 : w1.frozen? ⟨w.heap.size, 3, none⟩ = false := (hB0.frozen (p := ⟨_, _, _⟩) (by simp)).trans (by simp)
      have r4 : w1.cell? ⟨w.heap.size, 4, none⟩ = some (.int .i64 0) := (hB0.cell (p := ⟨_, _, _⟩) (by simp)).trans (by simp)
      have f4 : w1.frozen? ⟨w.heap.size, 4, none⟩ = false := (hB0.frozen (p := ⟨_, _, _⟩) (by simp)).trans (by simp)
      have c0 := hcell 0 (by simp)
      have c5 := hcell 5 (by simp)
      simp only [List.getD_cons_zero, List.getD_cons_succ] at c0 c5
      have ez : (w.alloc (.cells #[.int .i64 0, .int .i64 0, .int .i64 0, .int .i64 0, .int .i64 0] 72)).heap.size = w.heap.size + 1 := by simp
      rw [ez] at c0 c5
      clear hcell hB0 ez hz0
      go_wp2_with fail
      refine (hasSuffix_any a _ _ (by omega)).mono ?_
      rintro x w' ⟨rfl, rfl⟩
      rw [show Lib.hasSuffix a.data.toList (⟨#[44]⟩ : ByteArray).data.toList = false from HA.out]
      go_wp2_with fail
      refine bodyPost_ret (v := .tuple #[partsV 0 0 0 0 0, .bool false]) ?_ rfl ⟨rfl, (((((hB.setCell (Nat.le_refl _) _).setCell (Nat.le_refl _) _).setCell (Nat.le_refl _) _).setCell (Nat.le_refl _) _).setCell (Nat.le_refl _) _)⟩
      simp [results, Tryz.results53, go_sem, r0, r1, r2, r3, r4]
    · have hgm : ¬ f.toList = [71, 77, 84] := fun h => hf (by
        apply ByteArray.ext
        apply Array.toList_inj.1
        rw [← Lib.toList_data, h]; rfl)
      clear hno hf
      go_enter Tryz.func53, Tryz.ntmps53
      go_wp2_with fail
      refine (HP.out _ (hG.below ((Below.refl _ _).alloc (Nat.le_refl _) _))).mono ?_
      rintro x w1 ⟨rfl, hN⟩
      obtain ⟨hB0, hz0, hcell⟩ := hN
      have hB : Below w.heap.size w w1 := ((Below.refl _ _).alloc (Nat.le_refl _) _).trans (hB0.mono (by simp))
      have r0 : w1.cell? ⟨w.heap.size, 0, none⟩ = some (.int .i64 0) := (hB0.cell (p := ⟨_, _, _⟩) (by simp)).trans (by simp)
      have f0 : w1.frozen? ⟨w.heap.size, 0, none⟩ = false := (hB0.frozen (p := ⟨_, _, _⟩) (by simp)).trans (by simp)
      have r1 : w1.cell? ⟨w.heap.size, 1, none⟩ = some (.int .i64 0) := (hB0.cell (p := ⟨_, _, _⟩) (by simp)).trans (by simp)
      have f1 : w1.frozen? ⟨w.heap.size, 1, none⟩ = false := (hB0.frozen (p := ⟨_, _, _⟩) (by simp)).trans (by simp)
      have r2 : w1.cell? ⟨w.heap.size, 2, none⟩ = some (.int .i64 0) := (hB0.cell (p := ⟨_, _, _⟩) (by simp)).trans (by simp)
      have f2 : w1.frozen? ⟨w.heap.size, 2, none⟩ = false := (hB0.frozen (p := ⟨_, _, _⟩) (by simp)).trans (by simp)
      have r3 : w1.cell? ⟨w.heap.size, 3, none⟩ = some (.int .i64 0) := (hB0.cell (p := ⟨_, _, _⟩) (by simp)).trans (by simp)
      have f3 : w1.frozen? ⟨w.heap.size, 3, none⟩ = false := (hB0.frozen (p := ⟨_, _, _⟩) (by simp)).trans (by simp)
      have r4 : w1.cell? ⟨w.heap.size, 4, none⟩ = some (.int .i64 0) := (hB0.cell (p := ⟨_, _, _⟩) (by simp)).trans (by simp)
      have f4 : w1.frozen? ⟨w.heap.size, 4, none⟩ = false := (hB0.frozen (p := ⟨_, _, _⟩) (by simp)).trans (by simp)
      have c5 := hcell 5 (by simp)
      simp only [List.getD_cons_zero, List.getD_cons_succ] at c5
      have ez : (w.alloc (.cells #[.int .i64 0, .int .i64 0, .int .i64 0, .int .i64 0, .int .i64 0] 72)).heap.size = w.heap.size + 1 := by simp
      rw [ez] at c5
      clear hcell hB0 ez hz0
      go_wp2_with fail
      refine bodyPost_ret (v := .tuple #[partsV 0 0 0 0 0, .bool false]) ?_ rfl ⟨rfl, (((((hB.setCell (Nat.le_refl _) _).setCell (Nat.le_refl _) _).setCell (Nat.le_refl _) _).setCell (Nat.le_refl _) _).setCell (Nat.le_refl _) _)⟩
      simp [results, Tryz.results53, go_sem, r0, r1, r2, r3, r4]
  · have hl' : (((pieces space s).length : Int) != 6) = true := by rw [bne_iff_ne]; omega
    have HP := Lib.hid hP
    clear hno hL hP hle
    go_enter Tryz.func53, Tryz.ntmps53
    go_wp2_with fail
    refine (HP.out _ (hG.below ((Below.refl _ _).alloc (Nat.le_refl _) _))).mono ?_
    rintro x w1 ⟨rfl, hN⟩
    obtain ⟨hB0, hz0, hcell⟩ := hN
    have hB : Below w.heap.size w w1 := ((Below.refl _ _).alloc (Nat.le_refl _) _).trans (hB0.mono (by simp))
    have r0 : w1.cell? ⟨w.heap.size, 0, none⟩ = some (.int .i64 0) := (hB0.cell (p := ⟨_, _, _⟩) (by simp)).trans (by simp)
    have f0 : w1.frozen? ⟨w.heap.size, 0, none⟩ = false := (hB0.frozen (p := ⟨_, _, _⟩) (by simp)).trans (by simp)
    have r1 : w1.cell? ⟨w.heap.size, 1, none⟩ = some (.int .i64 0) := (hB0.cell (p := ⟨_, _, _⟩) (by simp)).trans (by simp)
    have f1 : w1.frozen? ⟨w.heap.size, 1, none⟩ = false := (hB0.frozen (p := ⟨_, _, _⟩) (by simp)).trans (by simp)
    have r2 : w1.cell? ⟨w.heap.size, 2, none⟩ = some (.int .i64 0) := (hB0.cell (p := ⟨_, _, _⟩) (by simp)).trans (by simp)
    have f2 : w1.frozen? ⟨w.heap.size, 2, none⟩ = false := (hB0.frozen (p := ⟨_, _, _⟩) (by simp)).trans (by simp)
    have r3 : w1.cell? ⟨w.heap.size, 3, none⟩ = some (.int .i64 0) := (hB0.cell (p := ⟨_, _, _⟩) (by simp)).trans (by simp)
    have f3 : w1.frozen? ⟨w.heap.size, 3, none⟩ = false := (hB0.frozen (p := ⟨_, _, _⟩) (by simp)).trans (by simp)
    have r4 : w1.cell? ⟨w.heap.size, 4, none⟩ = some (.int .i64 0) := (hB0.cell (p := ⟨_, _, _⟩) (by simp)).trans (by simp)
    have f4 : w1.frozen? ⟨w.heap.size, 4, none⟩ = false := (hB0.frozen (p := ⟨_, _, _⟩) (by simp)).trans (by simp)
    clear hcell hB0 hz0
    go_wp2_with fail
    refine bodyPost_ret (v := .tuple #[partsV 0 0 0 0 0, .bool false]) ?_ rfl ⟨rfl, (((((hB.setCell (Nat.le_refl _) _).setCell (Nat.le_refl _) _).setCell (Nat.le_refl _) _).setCell (Nat.le_refl _) _).setCell (Nat.le_refl _) _)⟩
    simp [results, Tryz.results53, go_sem, r0, r1, r2, r3, r4]
end Go.Proofs.YtelgjeeleofgoaaGreatDoor

/- Package date: the second form of a moment's text. -/
namespace Go.Proofs.YtelgjeeleofgoaaGreatDoor
open Go.RowKit
set_option linter.unusedSimpArgs false
set_option linter.unusedVariables false

/-- What a region keeps that reads texts in rows, calls, and stores into the five cells of the result's block b. -/
abbrev KG (w : World) (k1 k2 b : Nat) (A C X Y Z : ByteArray) (W : World) : Prop :=
  Below w.heap.size w W ∧ k1 + 1 ≤ W.heap.size ∧ k2 + 1 ≤ W.heap.size ∧ W.cell? ⟨k1, 0, none⟩ = some (.string A) ∧ W.cell? ⟨k1, 2, none⟩ = some (.string C) ∧ W.cell? ⟨k2, 0, none⟩ = some (.string X) ∧ W.cell? ⟨k2, 1, none⟩ = some (.string Y) ∧ W.cell? ⟨k2, 2, none⟩ = some (.string Z) ∧
  W.cell? ⟨b, 0, none⟩ = some (cellOr W b 0) ∧ W.cell? ⟨b, 1, none⟩ = some (cellOr W b 1) ∧ W.cell? ⟨b, 2, none⟩ = some (cellOr W b 2) ∧ W.cell? ⟨b, 3, none⟩ = some (cellOr W b 3) ∧ W.cell? ⟨b, 4, none⟩ = some (cellOr W b 4) ∧ W.frozen? ⟨b, 0, none⟩ = false ∧ W.frozen? ⟨b, 1, none⟩ = false ∧ W.frozen? ⟨b, 2, none⟩ = false ∧ W.frozen? ⟨b, 3, none⟩ = false ∧ W.frozen? ⟨b, 4, none⟩ = false
theorem KG.drew_ {w W : World} {k1 k2 b : Nat} {A C X Y Z : ByteArray} (h : KG w k1 k2 b A C X Y Z W) : KG w k1 k2 b A C X Y Z W.drew := ⟨h.1.drew, h.2⟩
theorem KG.next {w W W' : World} {k1 k2 b : Nat} {A C X Y Z : ByteArray} (h : KG w k1 k2 b A C X Y Z W) (hb : Below W.heap.size W W') (hbk : b ≤ k1) : KG w k1 k2 b A C X Y Z W' := by
  obtain ⟨g2, s1, s2, c0, c1, c2, c3, c4, r0, r1, r2, r3, r4, f0, f1, f2, f3, f4⟩ := h
  have kk : ∀ k o v, k + 1 ≤ W.heap.size → W.cell? ⟨k, o, none⟩ = some v → W'.cell? ⟨k, o, none⟩ = some v := fun k o v h0 h => (hb.cell (p := ⟨_, _, _⟩) (by show k < _; omega)).trans h
  have kb : ∀ o v, W.cell? ⟨b, o, none⟩ = some v → W'.cell? ⟨b, o, none⟩ = some (cellOr W' b o) := fun o v h => cellOr_of ((hb.cell (p := ⟨_, _, _⟩) (by show b < _; omega)).trans h)
  have kf : ∀ o, W.frozen? ⟨b, o, none⟩ = false → W'.frozen? ⟨b, o, none⟩ = false := fun o h => (hb.frozen (p := ⟨_, _, _⟩) (by show b < _; omega)).trans h
  exact ⟨g2.trans (hb.mono g2.size), Nat.le_trans s1 hb.size, Nat.le_trans s2 hb.size, kk _ _ _ s1 c0, kk _ _ _ s1 c1, kk _ _ _ s2 c2, kk _ _ _ s2 c3, kk _ _ _ s2 c4, kb _ _ r0, kb _ _ r1, kb _ _ r2, kb _ _ r3, kb _ _ r4, kf _ f0, kf _ f1, kf _ f2, kf _ f3, kf _ f4⟩
theorem KG.set_ {w W : World} {k1 k2 b : Nat} {A C X Y Z : ByteArray} (h : KG w k1 k2 b A C X Y Z W) (o : Nat) (v : Value) (hw : w.heap.size ≤ b) (n1 : b ≠ k1) (n2 : b ≠ k2) : KG w k1 k2 b A C X Y Z (W.setCell ⟨b, o, none⟩ v) := by
  obtain ⟨g2, s1, s2, c0, c1, c2, c3, c4, r0, r1, r2, r3, r4, f0, f1, f2, f3, f4⟩ := h
  have kk : ∀ k q u, b ≠ k → W.cell? ⟨k, q, none⟩ = some u → (W.setCell ⟨b, o, none⟩ v).cell? ⟨k, q, none⟩ = some u := fun k q u hbk h => (World.cell?_setCell_other W _ _ _ (fun e => hbk (congrArg Addr.block e))).trans h
  have kb : ∀ q u, W.cell? ⟨b, q, none⟩ = some u → (W.setCell ⟨b, o, none⟩ v).cell? ⟨b, q, none⟩ = some (cellOr (W.setCell ⟨b, o, none⟩ v) b q) := fun q u h => by
    obtain ⟨u', hu'⟩ := cell?_setCell_some (p := ⟨b, o, none⟩) (x := v) h
    exact cellOr_of hu'
  have kf : ∀ q, W.frozen? ⟨b, q, none⟩ = false → (W.setCell ⟨b, o, none⟩ v).frozen? ⟨b, q, none⟩ = false := fun q h => (World.frozen?_setCell _ _ _ _).trans h
  have es : (W.setCell ⟨b, o, none⟩ v).heap.size = W.heap.size := by simp [World.setCell]
  exact ⟨g2.setCell hw _, es ▸ s1, es ▸ s2, kk _ _ _ n1 c0, kk _ _ _ n1 c1, kk _ _ _ n2 c2, kk _ _ _ n2 c3, kk _ _ _ n2 c4, kb _ _ r0, kb _ _ r1, kb _ _ r2, kb _ _ r3, kb _ _ r4, kf _ f0, kf _ f1, kf _ f2, kf _ f3, kf _ f4⟩

noncomputable def secondM (s : ByteArray) (now : Int) : Option P5 :=
  match pieces space s with
  | [a, b, c, d] =>
    if d = cGMT ∧ Lib.hasSuffix a.data.toList comma.data.toList = true then
      match pieces dash b with
      | [p, q, r] => some (amongM cLong (bs (Lib.trimSuffix a.data.toList comma.data.toList)), yearM (numberM r 2) now, 1 + amongM cMonths q, numberM p 2, clockM c)
      | _ => none
    else none
  | _ => none
theorem gmt_list {f : ByteArray} (h : f = cGMT) : f.toList = [71, 77, 84] := by rw [h, Lib.toList_data]; rfl
theorem gmt_not {f : ByteArray} (hf : f ≠ cGMT) : ¬ f.toList = [71, 77, 84] := fun h => hf (by
  apply ByteArray.ext
  apply Array.toList_inj.1
  rw [← Lib.toList_data, h]; rfl)

set_option maxHeartbeats 8000000 in
set_option maxRecDepth 100000 in
theorem second_yes (s a b c d p q r : ByteArray) (now : Int) (w : World) (hG : Glob w) (hs : s.size < 4294967281) (hn0 : 0 ≤ now) (hn1 : now ≤ 220752000000) (hL : pieces space s = [a, b, c, d]) (hf : d = cGMT) (ha : Lib.hasSuffix a.data.toList comma.data.toList = true) (hL2 : pieces dash b = [p, q, r]) :
    Calls Tryz.prog 55 #[.string s, .int .i64 now] w fun x w' => x = .returned (.tuple #[partsV (amongM cLong (bs (Lib.trimSuffix a.data.toList comma.data.toList))) (yearM (numberM r 2) now) (1 + amongM cMonths q) (numberM p 2) (clockM c), .bool true]) ∧ Below w.heap.size w w' := by
  have hP := fun W (hW : Glob W) => pieces_any space s W hW hs (by decide)
  have hle : ∀ p ∈ pieces space s, p.size ≤ s.size := fun p hp => pieces_le _ _ _ _ hp
  have hle2 : ∀ x ∈ pieces dash b, x.size ≤ b.size := fun p hp => pieces_le _ _ _ _ hp
  rw [hL] at hP hle
  rw [hL2] at hle2
  have sa := hle a (by simp)
  have sb := hle b (by simp)
  have sc := hle c (by simp)
  have sp := hle2 p (by simp)
  have sq := hle2 q (by simp)
  have sr := hle2 r (by simp)
  have hP2 := fun W (hW : Glob W) => pieces_any dash b W hW (by omega) (by decide)
  rw [hL2] at hP2
  have HP := Lib.hid hP
  have HP2 := Lib.hid hP2
  have HA := Lib.hid ha
  have hgm := gmt_list hf
  have n1 := amongM_bd cMonths q (by decide)
  have nb := numberM_bd' r 2 (by omega)
  clear hP hle hL ha hf hle2 hL2 hP2
  go_enter Tryz.func55, Tryz.ntmps55
  go_wp2_with fail
  refine (HP.out _ (hG.below ((Below.refl _ _).alloc (Nat.le_refl _) _))).mono ?_
  rintro x w1 ⟨rfl, hN⟩
  obtain ⟨hB0, hz0, hcell⟩ := hN
  have hB : Below w.heap.size w w1 := ((Below.refl _ _).alloc (Nat.le_refl _) _).trans (hB0.mono (by simp))
  have ez : (w.alloc (.cells #[.int .i64 0, .int .i64 0, .int .i64 0, .int .i64 0, .int .i64 0] 72)).heap.size = w.heap.size + 1 := by simp
  rw [ez] at hz0 hcell
  clear ez
  have r0 : w1.cell? ⟨w.heap.size, 0, none⟩ = some (.int .i64 0) := (hB0.cell (p := ⟨_, _, _⟩) (by simp)).trans (by simp)
  have f0 : w1.frozen? ⟨w.heap.size, 0, none⟩ = false := (hB0.frozen (p := ⟨_, _, _⟩) (by simp)).trans (by simp)
  have r1 : w1.cell? ⟨w.heap.size, 1, none⟩ = some (.int .i64 0) := (hB0.cell (p := ⟨_, _, _⟩) (by simp)).trans (by simp)
  have f1 : w1.frozen? ⟨w.heap.size, 1, none⟩ = false := (hB0.frozen (p := ⟨_, _, _⟩) (by simp)).trans (by simp)
  have r2 : w1.cell? ⟨w.heap.size, 2, none⟩ = some (.int .i64 0) := (hB0.cell (p := ⟨_, _, _⟩) (by simp)).trans (by simp)
  have f2 : w1.frozen? ⟨w.heap.size, 2, none⟩ = false := (hB0.frozen (p := ⟨_, _, _⟩) (by simp)).trans (by simp)
  have r3 : w1.cell? ⟨w.heap.size, 3, none⟩ = some (.int .i64 0) := (hB0.cell (p := ⟨_, _, _⟩) (by simp)).trans (by simp)
  have f3 : w1.frozen? ⟨w.heap.size, 3, none⟩ = false := (hB0.frozen (p := ⟨_, _, _⟩) (by simp)).trans (by simp)
  have r4 : w1.cell? ⟨w.heap.size, 4, none⟩ = some (.int .i64 0) := (hB0.cell (p := ⟨_, _, _⟩) (by simp)).trans (by simp)
  have f4 : w1.frozen? ⟨w.heap.size, 4, none⟩ = false := (hB0.frozen (p := ⟨_, _, _⟩) (by simp)).trans (by simp)
  have c0 := hcell 0 (by simp)
  have c1 := hcell 1 (by simp)
  have c2 := hcell 2 (by simp)
  have c3 := hcell 3 (by simp)
  simp only [List.getD_cons_zero, List.getD_cons_succ] at c0 c1 c2 c3
  clear hcell hB0
  unfold cMonths at n1
  have hw1 := IntWalk.i64_in (1 + amongM ⟨#[74, 97, 110, 32, 70, 101, 98, 32, 77, 97, 114, 32, 65, 112, 114, 32, 77, 97, 121, 32, 74, 117, 110, 32, 74, 117, 108, 32, 65, 117, 103, 32, 83, 101, 112, 32, 79, 99, 116, 32, 78, 111, 118, 32, 68, 101, 99]⟩ q) (by omega)
  go_wp2_with fail
  refine (hasSuffix_any a _ _ (by omega)).mono ?_
  rintro x w' ⟨rfl, rfl⟩
  rw [show Lib.hasSuffix a.data.toList (⟨#[44]⟩ : ByteArray).data.toList = true from HA.out]
  go_wp2_with fail
  refine (HP2.out _ (hG.below hB)).mono ?_
  rintro x w2 ⟨rfl, hN2⟩
  obtain ⟨hB1, hz1, hcell⟩ := hN2
  have hBB : Below w.heap.size w w2 := hB.trans (hB1.mono hB.size)
  have kk : ∀ b o, b < w1.heap.size → w2.cell? ⟨b, o, none⟩ = w1.cell? ⟨b, o, none⟩ := fun b o h => hB1.cell (p := ⟨_, _, _⟩) h
  have kf : ∀ b o, b < w1.heap.size → w2.frozen? ⟨b, o, none⟩ = w1.frozen? ⟨b, o, none⟩ := fun b o h => hB1.frozen (p := ⟨_, _, _⟩) h
  have r0' := (kk w.heap.size 0 (by omega)).trans r0
  have f0' := (kf w.heap.size 0 (by omega)).trans f0
  have r1' := (kk w.heap.size 1 (by omega)).trans r1
  have f1' := (kf w.heap.size 1 (by omega)).trans f1
  have r2' := (kk w.heap.size 2 (by omega)).trans r2
  have f2' := (kf w.heap.size 2 (by omega)).trans f2
  have r3' := (kk w.heap.size 3 (by omega)).trans r3
  have f3' := (kf w.heap.size 3 (by omega)).trans f3
  have r4' := (kk w.heap.size 4 (by omega)).trans r4
  have f4' := (kf w.heap.size 4 (by omega)).trans f4
  have c0' := (kk (w.heap.size + 1) 0 (by omega)).trans c0
  have c2' := (kk (w.heap.size + 1) 2 (by omega)).trans c2
  have d0 := hcell 0 (by simp)
  have d1 := hcell 1 (by simp)
  have d2 := hcell 2 (by simp)
  simp only [List.getD_cons_zero, List.getD_cons_succ] at d0 d1 d2
  have hsz := hB.size
  have hK : KG w (w.heap.size + 1) w1.heap.size w.heap.size a c p q r w2 := ⟨hBB, by have := hB1.size; omega, by omega, c0', c2', d0, d1, d2, cellOr_of r0', cellOr_of r1', cellOr_of r2', cellOr_of r3', cellOr_of r4', f0', f1', f2', f3', f4'⟩
  have HK := Lib.hid hK
  clear hK hcell kk kf hB1 hBB r0 r1 r2 r3 r4 f0 f1 f2 f3 f4 r0' r1' r2' r3' r4' f0' f1' f2' f3' f4' c0 c1 c2 c3 hgm
  go_wp2_with fail
  go_region_held3 (fun W => Below w.heap.size w W ∧ w.heap.size + 1 + 1 ≤ W.heap.size ∧ w1.heap.size + 1 ≤ W.heap.size ∧ W.cell? ⟨w.heap.size + 1, 0, none⟩ = some (.string a) ∧ W.cell? ⟨w.heap.size + 1, 2, none⟩ = some (.string c) ∧ W.cell? ⟨w1.heap.size, 0, none⟩ = some (.string p) ∧ W.cell? ⟨w1.heap.size, 1, none⟩ = some (.string q) ∧ W.cell? ⟨w1.heap.size, 2, none⟩ = some (.string r) ∧ W.cell? ⟨w.heap.size, 0, none⟩ = some (cellOr W w.heap.size 0) ∧ W.cell? ⟨w.heap.size, 1, none⟩ = some (cellOr W w.heap.size 1) ∧ W.cell? ⟨w.heap.size, 2, none⟩ = some (cellOr W w.heap.size 2) ∧ W.cell? ⟨w.heap.size, 3, none⟩ = some (cellOr W w.heap.size 3) ∧ W.cell? ⟨w.heap.size, 4, none⟩ = some (cellOr W w.heap.size 4) ∧ W.frozen? ⟨w.heap.size, 0, none⟩ = false ∧ W.frozen? ⟨w.heap.size, 1, none⟩ = false ∧ W.frozen? ⟨w.heap.size, 2, none⟩ = false ∧ W.frozen? ⟨w.heap.size, 3, none⟩ = false ∧ W.frozen? ⟨w.heap.size, 4, none⟩ = false) (first | (with_reducible assumption) | (with_reducible exact KG.drew_ HK.out) | (with_reducible exact KG.next (by assumption) hb (by omega)) | (with_reducible exact KG.next (KG.drew_ HK.out) hb (by omega)) | (with_reducible exact KG.set_ (KG.set_ (KG.set_ (KG.set_ (KG.set_ (by assumption) _ _ (Nat.le_refl _) (by omega) (by omega)) _ _ (Nat.le_refl _) (by omega) (by omega)) _ _ (Nat.le_refl _) (by omega) (by omega)) _ _ (Nat.le_refl _) (by omega) (by omega)) _ _ (Nat.le_refl _) (by omega) (by omega))) (first | (go_at_call 86; refine (trimSuffix_any _ _ _ (by omega)).mono ?_; rintro x w' ⟨rfl, rfl⟩) | (go_at_call 85; refine (among_any _ _ _ (hG.below (And.left (by with_reducible assumption))) (by decide) (ascii_of (by decide))).mono ?_; rintro x w' ⟨rfl, hb⟩) | (go_at_call 85; refine (among_any _ _ _ (hG.below (KG.drew_ HK.out).1) (by decide) (ascii_of (by decide))).mono ?_; rintro x w' ⟨rfl, hb⟩) | (go_at_call 87; refine (number_any _ _ _ (by omega) (by omega)).mono ?_; rintro x w' ⟨rfl, hb⟩) | (go_at_call 88; refine (clock_any _ _ (hG.below (And.left (by with_reducible assumption))) (by omega)).mono ?_; rintro x w' ⟨rfl, hb⟩) | (go_at_call 88; refine (clock_any _ _ (hG.below (KG.drew_ HK.out).1) (by omega)).mono ?_; rintro x w' ⟨rfl, hb⟩) | (go_at_call 91; refine (year_any _ _ _ (by omega) (by omega) (by omega) (by omega)).mono ?_; rintro x w' ⟨rfl, rfl⟩))
  rename_i hH
  obtain ⟨hBe, _, _, _, _, _, _, _, r0, r1, r2, r3, r4, _⟩ := hH
  obtain ⟨q0, q1, q2, q3, q4⟩ := five_cells _ _ _ _ _ _ _ _ rfl r0 r1 r2 r3 r4
  clear r0 r1 r2 r3 r4
  generalize World.setCell _ _ _ = W at *
  clear HK hb n1
  try rw [hw1] at q2
  clear hw1
  go_wp2_with fail
  refine bodyPost_ret (v := .tuple #[partsV (amongM cLong (bs (Lib.trimSuffix a.data.toList comma.data.toList))) (yearM (numberM r 2) now) (1 + amongM cMonths q) (numberM p 2) (clockM c), .bool true]) ?_ rfl ⟨rfl, hBe⟩
  simp [results, Tryz.results55, go_sem, q0, q1, q2, q3, q4, cLong, cMonths, comma]
end Go.Proofs.YtelgjeeleofgoaaGreatDoor

/- Package date: texts that have not the second form. -/
namespace Go.Proofs.YtelgjeeleofgoaaGreatDoor
open Go.RowKit
set_option linter.unusedSimpArgs false
set_option linter.unusedVariables false
set_option maxHeartbeats 8000000 in
set_option maxRecDepth 100000 in
theorem second_no (s : ByteArray) (now : Int) (w : World) (hG : Glob w) (hs : s.size < 4294967281) (hno : secondM s now = none) :
    Calls Tryz.prog 55 #[.string s, .int .i64 now] w fun x w' => x = .returned (.tuple #[partsV 0 0 0 0 0, .bool false]) ∧ Below w.heap.size w w' := by
  have hP := fun W (hW : Glob W) => pieces_any space s W hW hs (by decide)
  have hle : ∀ p ∈ pieces space s, p.size ≤ s.size := fun p hp => pieces_le _ _ _ _ hp
  by_cases hL : (pieces space s).length = 4
  · match hp : pieces space s, hL with
    | [a, b, c, d], _ =>
    rw [hp] at hP hle
    have sa := hle a (by simp)
    have sb := hle b (by simp)
    unfold secondM at hno
    rw [hp] at hno
    simp only at hno
    have HP := Lib.hid hP
    clear hP hle hp hL
    by_cases hf : d = cGMT
    · have hgm := gmt_list hf
      cases ha : Lib.hasSuffix a.data.toList comma.data.toList with
      | false =>
        have HA := Lib.hid ha
        clear hno hf ha
        go_enter Tryz.func55, Tryz.ntmps55
        go_wp2_with fail
        refine (HP.out _ (hG.below ((Below.refl _ _).alloc (Nat.le_refl _) _))).mono ?_
        rintro x w1 ⟨rfl, hN⟩
        obtain ⟨hB0, hz0, hcell⟩ := hN
        have hB : Below w.heap.size w w1 := ((Below.refl _ _).alloc (Nat.le_refl _) _).trans (hB0.mono (by simp))
        have ez : (w.alloc (.cells #[.int .i64 0, .int .i64 0, .int .i64 0, .int .i64 0, .int .i64 0] 72)).heap.size = w.heap.size + 1 := by simp
        rw [ez] at hz0 hcell
        clear ez
        have r0 : w1.cell? ⟨w.heap.size, 0, none⟩ = some (.int .i64 0) := (hB0.cell (p := ⟨_, _, _⟩) (by simp)).trans (by simp)
        have f0 : w1.frozen? ⟨w.heap.size, 0, none⟩ = false := (hB0.frozen (p := ⟨_, _, _⟩) (by simp)).trans (by simp)
        have r1 : w1.cell? ⟨w.heap.size, 1, none⟩ = some (.int .i64 0) := (hB0.cell (p := ⟨_, _, _⟩) (by simp)).trans (by simp)
        have f1 : w1.frozen? ⟨w.heap.size, 1, none⟩ = false := (hB0.frozen (p := ⟨_, _, _⟩) (by simp)).trans (by simp)
        have r2 : w1.cell? ⟨w.heap.size, 2, none⟩ = some (.int .i64 0) := (hB0.cell (p := ⟨_, _, _⟩) (by simp)).trans (by simp)
        have f2 : w1.frozen? ⟨w.heap.size, 2, none⟩ = false := (hB0.frozen (p := ⟨_, _, _⟩) (by simp)).trans (by simp)
        have r3 : w1.cell? ⟨w.heap.size, 3, none⟩ = some (.int .i64 0) := (hB0.cell (p := ⟨_, _, _⟩) (by simp)).trans (by simp)
        have f3 : w1.frozen? ⟨w.heap.size, 3, none⟩ = false := (hB0.frozen (p := ⟨_, _, _⟩) (by simp)).trans (by simp)
        have r4 : w1.cell? ⟨w.heap.size, 4, none⟩ = some (.int .i64 0) := (hB0.cell (p := ⟨_, _, _⟩) (by simp)).trans (by simp)
        have f4 : w1.frozen? ⟨w.heap.size, 4, none⟩ = false := (hB0.frozen (p := ⟨_, _, _⟩) (by simp)).trans (by simp)
        have c0 := hcell 0 (by simp)
        have c3 := hcell 3 (by simp)
        simp only [List.getD_cons_zero, List.getD_cons_succ] at c0 c3
        clear hcell hB0
        go_wp2_with fail
        refine (hasSuffix_any a _ _ (by omega)).mono ?_
        rintro x w' ⟨rfl, rfl⟩
        rw [show Lib.hasSuffix a.data.toList (⟨#[44]⟩ : ByteArray).data.toList = false from HA.out]
        go_wp2_with fail
        refine bodyPost_ret (v := .tuple #[partsV 0 0 0 0 0, .bool false]) ?_ rfl ⟨rfl, (((((hB.setCell (Nat.le_refl _) _).setCell (Nat.le_refl _) _).setCell (Nat.le_refl _) _).setCell (Nat.le_refl _) _).setCell (Nat.le_refl _) _)⟩
        simp [results, Tryz.results55, go_sem, r0, r1, r2, r3, r4]
      | true =>
        have HA := Lib.hid ha
        have hP2 := fun W (hW : Glob W) => pieces_any dash b W hW (by omega) (by decide)
        have HP2 := Lib.hid hP2
        have hl3 : (pieces dash b).length ≠ 3 := fun h3 => by
          rw [if_pos ⟨hf, ha⟩] at hno
          match hq : pieces dash b, h3 with
          | [p, q, r], _ => rw [hq] at hno; simp at hno
        have hl' : (((pieces dash b).length : Int) != 3) = true := by rw [bne_iff_ne]; omega
        clear hno hf ha hP2 hl3
        go_enter Tryz.func55, Tryz.ntmps55
        go_wp2_with fail
        refine (HP.out _ (hG.below ((Below.refl _ _).alloc (Nat.le_refl _) _))).mono ?_
        rintro x w1 ⟨rfl, hN⟩
        obtain ⟨hB0, hz0, hcell⟩ := hN
        have hB : Below w.heap.size w w1 := ((Below.refl _ _).alloc (Nat.le_refl _) _).trans (hB0.mono (by simp))
        have ez : (w.alloc (.cells #[.int .i64 0, .int .i64 0, .int .i64 0, .int .i64 0, .int .i64 0] 72)).heap.size = w.heap.size + 1 := by simp
        rw [ez] at hz0 hcell
        clear ez
        have r0 : w1.cell? ⟨w.heap.size, 0, none⟩ = some (.int .i64 0) := (hB0.cell (p := ⟨_, _, _⟩) (by simp)).trans (by simp)
        have f0 : w1.frozen? ⟨w.heap.size, 0, none⟩ = false := (hB0.frozen (p := ⟨_, _, _⟩) (by simp)).trans (by simp)
        have r1 : w1.cell? ⟨w.heap.size, 1, none⟩ = some (.int .i64 0) := (hB0.cell (p := ⟨_, _, _⟩) (by simp)).trans (by simp)
        have f1 : w1.frozen? ⟨w.heap.size, 1, none⟩ = false := (hB0.frozen (p := ⟨_, _, _⟩) (by simp)).trans (by simp)
        have r2 : w1.cell? ⟨w.heap.size, 2, none⟩ = some (.int .i64 0) := (hB0.cell (p := ⟨_, _, _⟩) (by simp)).trans (by simp)
        have f2 : w1.frozen? ⟨w.heap.size, 2, none⟩ = false := (hB0.frozen (p := ⟨_, _, _⟩) (by simp)).trans (by simp)
        have r3 : w1.cell? ⟨w.heap.size, 3, none⟩ = some (.int .i64 0) := (hB0.cell (p := ⟨_, _, _⟩) (by simp)).trans (by simp)
        have f3 : w1.frozen? ⟨w.heap.size, 3, none⟩ = false := (hB0.frozen (p := ⟨_, _, _⟩) (by simp)).trans (by simp)
        have r4 : w1.cell? ⟨w.heap.size, 4, none⟩ = some (.int .i64 0) := (hB0.cell (p := ⟨_, _, _⟩) (by simp)).trans (by simp)
        have f4 : w1.frozen? ⟨w.heap.size, 4, none⟩ = false := (hB0.frozen (p := ⟨_, _, _⟩) (by simp)).trans (by simp)
        have c0 := hcell 0 (by simp)
        have c1 := hcell 1 (by simp)
        have c3 := hcell 3 (by simp)
        simp only [List.getD_cons_zero, List.getD_cons_succ] at c0 c1 c3
        clear hcell hB0
        go_wp2_with fail
        refine (hasSuffix_any a _ _ (by omega)).mono ?_
        rintro x w' ⟨rfl, rfl⟩
        rw [show Lib.hasSuffix a.data.toList (⟨#[44]⟩ : ByteArray).data.toList = true from HA.out]
        go_wp2_with fail
        refine (HP2.out _ (hG.below hB)).mono ?_
        rintro x w2 ⟨rfl, hN2⟩
        obtain ⟨hB1, hz1, hcell⟩ := hN2
        have hBB : Below w.heap.size w w2 := hB.trans (hB1.mono hB.size)
        have kk : ∀ b o, b < w1.heap.size → w2.cell? ⟨b, o, none⟩ = w1.cell? ⟨b, o, none⟩ := fun b o h => hB1.cell (p := ⟨_, _, _⟩) h
        have kf : ∀ b o, b < w1.heap.size → w2.frozen? ⟨b, o, none⟩ = w1.frozen? ⟨b, o, none⟩ := fun b o h => hB1.frozen (p := ⟨_, _, _⟩) h
        have r0' := (kk w.heap.size 0 (by omega)).trans r0
        have f0' := (kf w.heap.size 0 (by omega)).trans f0
        have r1' := (kk w.heap.size 1 (by omega)).trans r1
        have f1' := (kf w.heap.size 1 (by omega)).trans f1
        have r2' := (kk w.heap.size 2 (by omega)).trans r2
        have f2' := (kf w.heap.size 2 (by omega)).trans f2
        have r3' := (kk w.heap.size 3 (by omega)).trans r3
        have f3' := (kf w.heap.size 3 (by omega)).trans f3
        have r4' := (kk w.heap.size 4 (by omega)).trans r4
        have f4' := (kf w.heap.size 4 (by omega)).trans f4
        clear hcell kk kf hB1 hB r0 r1 r2 r3 r4 f0 f1 f2 f3 f4 c0 c1 c3 hgm
        go_wp2_with fail
        refine bodyPost_ret (v := .tuple #[partsV 0 0 0 0 0, .bool false]) ?_ rfl ⟨rfl, (((((hBB.setCell (Nat.le_refl _) _).setCell (Nat.le_refl _) _).setCell (Nat.le_refl _) _).setCell (Nat.le_refl _) _).setCell (Nat.le_refl _) _)⟩
        simp [results, Tryz.results55, go_sem, r0', r1', r2', r3', r4']
    · have hgm := gmt_not hf
      clear hno hf
      go_enter Tryz.func55, Tryz.ntmps55
      go_wp2_with fail
      refine (HP.out _ (hG.below ((Below.refl _ _).alloc (Nat.le_refl _) _))).mono ?_
      rintro x w1 ⟨rfl, hN⟩
      obtain ⟨hB0, hz0, hcell⟩ := hN
      have hB : Below w.heap.size w w1 := ((Below.refl _ _).alloc (Nat.le_refl _) _).trans (hB0.mono (by simp))
      have ez : (w.alloc (.cells #[.int .i64 0, .int .i64 0, .int .i64 0, .int .i64 0, .int .i64 0] 72)).heap.size = w.heap.size + 1 := by simp
      rw [ez] at hz0 hcell
      clear ez
      have r0 : w1.cell? ⟨w.heap.size, 0, none⟩ = some (.int .i64 0) := (hB0.cell (p := ⟨_, _, _⟩) (by simp)).trans (by simp)
      have f0 : w1.frozen? ⟨w.heap.size, 0, none⟩ = false := (hB0.frozen (p := ⟨_, _, _⟩) (by simp)).trans (by simp)
      have r1 : w1.cell? ⟨w.heap.size, 1, none⟩ = some (.int .i64 0) := (hB0.cell (p := ⟨_, _, _⟩) (by simp)).trans (by simp)
      have f1 : w1.frozen? ⟨w.heap.size, 1, none⟩ = false := (hB0.frozen (p := ⟨_, _, _⟩) (by simp)).trans (by simp)
      have r2 : w1.cell? ⟨w.heap.size, 2, none⟩ = some (.int .i64 0) := (hB0.cell (p := ⟨_, _, _⟩) (by simp)).trans (by simp)
      have f2 : w1.frozen? ⟨w.heap.size, 2, none⟩ = false := (hB0.frozen (p := ⟨_, _, _⟩) (by simp)).trans (by simp)
      have r3 : w1.cell? ⟨w.heap.size, 3, none⟩ = some (.int .i64 0) := (hB0.cell (p := ⟨_, _, _⟩) (by simp)).trans (by simp)
      have f3 : w1.frozen? ⟨w.heap.size, 3, none⟩ = false := (hB0.frozen (p := ⟨_, _, _⟩) (by simp)).trans (by simp)
      have r4 : w1.cell? ⟨w.heap.size, 4, none⟩ = some (.int .i64 0) := (hB0.cell (p := ⟨_, _, _⟩) (by simp)).trans (by simp)
      have f4 : w1.frozen? ⟨w.heap.size, 4, none⟩ = false := (hB0.frozen (p := ⟨_, _, _⟩) (by simp)).trans (by simp)
      have c3 := hcell 3 (by simp)
      simp only [List.getD_cons_zero, List.getD_cons_succ] at c3
      clear hcell hB0
      go_wp2_with fail
      refine bodyPost_ret (v := .tuple #[partsV 0 0 0 0 0, .bool false]) ?_ rfl ⟨rfl, (((((hB.setCell (Nat.le_refl _) _).setCell (Nat.le_refl _) _).setCell (Nat.le_refl _) _).setCell (Nat.le_refl _) _).setCell (Nat.le_refl _) _)⟩
      simp [results, Tryz.results55, go_sem, r0, r1, r2, r3, r4]
  · have hl' : (((pieces space s).length : Int) != 4) = true := by rw [bne_iff_ne]; omega
    have HP := Lib.hid hP
    clear hno hL hP hle
    go_enter Tryz.func55, Tryz.ntmps55
    go_wp2_with fail
    refine (HP.out _ (hG.below ((Below.refl _ _).alloc (Nat.le_refl _) _))).mono ?_
    rintro x w1 ⟨rfl, hN⟩
    obtain ⟨hB0, hz0, hcell⟩ := hN
    have hB : Below w.heap.size w w1 := ((Below.refl _ _).alloc (Nat.le_refl _) _).trans (hB0.mono (by simp))
    have ez : (w.alloc (.cells #[.int .i64 0, .int .i64 0, .int .i64 0, .int .i64 0, .int .i64 0] 72)).heap.size = w.heap.size + 1 := by simp
    rw [ez] at hz0 hcell
    clear ez
    have r0 : w1.cell? ⟨w.heap.size, 0, none⟩ = some (.int .i64 0) := (hB0.cell (p := ⟨_, _, _⟩) (by simp)).trans (by simp)
    have f0 : w1.frozen? ⟨w.heap.size, 0, none⟩ = false := (hB0.frozen (p := ⟨_, _, _⟩) (by simp)).trans (by simp)
    have r1 : w1.cell? ⟨w.heap.size, 1, none⟩ = some (.int .i64 0) := (hB0.cell (p := ⟨_, _, _⟩) (by simp)).trans (by simp)
    have f1 : w1.frozen? ⟨w.heap.size, 1, none⟩ = false := (hB0.frozen (p := ⟨_, _, _⟩) (by simp)).trans (by simp)
    have r2 : w1.cell? ⟨w.heap.size, 2, none⟩ = some (.int .i64 0) := (hB0.cell (p := ⟨_, _, _⟩) (by simp)).trans (by simp)
    have f2 : w1.frozen? ⟨w.heap.size, 2, none⟩ = false := (hB0.frozen (p := ⟨_, _, _⟩) (by simp)).trans (by simp)
    have r3 : w1.cell? ⟨w.heap.size, 3, none⟩ = some (.int .i64 0) := (hB0.cell (p := ⟨_, _, _⟩) (by simp)).trans (by simp)
    have f3 : w1.frozen? ⟨w.heap.size, 3, none⟩ = false := (hB0.frozen (p := ⟨_, _, _⟩) (by simp)).trans (by simp)
    have r4 : w1.cell? ⟨w.heap.size, 4, none⟩ = some (.int .i64 0) := (hB0.cell (p := ⟨_, _, _⟩) (by simp)).trans (by simp)
    have f4 : w1.frozen? ⟨w.heap.size, 4, none⟩ = false := (hB0.frozen (p := ⟨_, _, _⟩) (by simp)).trans (by simp)
    clear hcell hB0
    go_wp2_with fail
    refine bodyPost_ret (v := .tuple #[partsV 0 0 0 0 0, .bool false]) ?_ rfl ⟨rfl, (((((hB.setCell (Nat.le_refl _) _).setCell (Nat.le_refl _) _).setCell (Nat.le_refl _) _).setCell (Nat.le_refl _) _).setCell (Nat.le_refl _) _)⟩
    simp [results, Tryz.results55, go_sem, r0, r1, r2, r3, r4]
end Go.Proofs.YtelgjeeleofgoaaGreatDoor

/- Package date: the third form of a moment's text; a text in any of the three. -/
namespace Go.Proofs.YtelgjeeleofgoaaGreatDoor
open Go.RowKit
set_option linter.unusedSimpArgs false
set_option linter.unusedVariables false

def byteAt (s : ByteArray) (i : Nat) : Nat := if h : i < s.size then s[i].toNat else 0
theorem byteAt_eq (s : ByteArray) (i : Nat) (h : i < s.size) : s[i].toNat = byteAt s i := by simp [byteAt, h]
def dayM (d : ByteArray) : Int := if byteAt d 0 = 32 then numberM (d.extract 1 d.size) 1 else if byteAt d 0 = 48 then -1 else numberM d 2
def thirdOk (s : ByteArray) : Bool := decide (s.size = 24 ∧ byteAt s 3 = 32 ∧ byteAt s 7 = 32 ∧ byteAt s 10 = 32 ∧ byteAt s 19 = 32)
def thirdM (s : ByteArray) : Option P5 :=
  if thirdOk s then some (amongM cShort (s.extract 0 3), numberM (s.extract 20 s.size) 4, 1 + amongM cMonths (s.extract 4 7), dayM (s.extract 8 10), clockM (s.extract 11 19)) else none

set_option maxHeartbeats 2000000 in
set_option maxRecDepth 100000 in
theorem third_no (s : ByteArray) (w : World) (hs : s.size < 4294967281) (hno : thirdOk s = false) :
    Calls Tryz.prog 56 #[.string s] w fun x w' => x = .returned (.tuple #[partsV 0 0 0 0 0, .bool false]) ∧ Below w.heap.size w w' := by
  have h' : ¬ (s.size = 24 ∧ byteAt s 3 = 32 ∧ byteAt s 7 = 32 ∧ byteAt s 10 = 32 ∧ byteAt s 19 = 32) := by simpa [thirdOk] using hno
  clear hno
  by_cases h24 : s.size = 24
  · have i19 : 19 < s.size := by omega
    have i3 : 3 < s.size := by omega
    have i7 : 7 < s.size := by omega
    have i10 : 10 < s.size := by omega
    have hl : ((s.size : Int) != 24) = false := by simp [h24]
    have h'' : ¬ (byteAt s 3 = 32 ∧ byteAt s 7 = 32 ∧ byteAt s 10 = 32 ∧ byteAt s 19 = 32) := fun h => h' ⟨h24, h⟩
    clear h24 h'
    have h' := h''
    clear h''
    have e3 := byteAt_eq s 3 i3
    have e7 := byteAt_eq s 7 i7
    have e10 := byteAt_eq s 10 i10
    have e19 := byteAt_eq s 19 i19
    by_cases h3 : byteAt s 3 = 32
    case neg =>
      have y3 : ((byteAt s 3 : Int) != 32) = true := by rw [bne_iff_ne]; omega
      clear h'
      go_enter Tryz.func56, Tryz.ntmps56
      go_wp2_with fail
      refine bodyPost_ret (v := .tuple #[partsV 0 0 0 0 0, .bool false]) ?_ rfl ⟨rfl, (Below.refl _ _).alloc (Nat.le_refl _) _⟩
      simp [results, Tryz.results56, go_sem]
    have y3 : ((byteAt s 3 : Int) != 32) = false := by rw [bne_eq_false_iff_eq]; omega
    by_cases h7 : byteAt s 7 = 32
    case neg =>
      have y7 : ((byteAt s 7 : Int) != 32) = true := by rw [bne_iff_ne]; omega
      clear h' h3
      go_enter Tryz.func56, Tryz.ntmps56
      go_wp2_with fail
      refine bodyPost_ret (v := .tuple #[partsV 0 0 0 0 0, .bool false]) ?_ rfl ⟨rfl, (Below.refl _ _).alloc (Nat.le_refl _) _⟩
      simp [results, Tryz.results56, go_sem]
    have y7 : ((byteAt s 7 : Int) != 32) = false := by rw [bne_eq_false_iff_eq]; omega
    by_cases h10 : byteAt s 10 = 32
    case neg =>
      have y10 : ((byteAt s 10 : Int) != 32) = true := by rw [bne_iff_ne]; omega
      clear h' h3 h7
      go_enter Tryz.func56, Tryz.ntmps56
      go_wp2_with fail
      refine bodyPost_ret (v := .tuple #[partsV 0 0 0 0 0, .bool false]) ?_ rfl ⟨rfl, (Below.refl _ _).alloc (Nat.le_refl _) _⟩
      simp [results, Tryz.results56, go_sem]
    have y10 : ((byteAt s 10 : Int) != 32) = false := by rw [bne_eq_false_iff_eq]; omega
    by_cases h19 : byteAt s 19 = 32
    case neg =>
      have y19 : ((byteAt s 19 : Int) != 32) = true := by rw [bne_iff_ne]; omega
      clear h' h3 h7 h10
      go_enter Tryz.func56, Tryz.ntmps56
      go_wp2_with fail
      refine bodyPost_ret (v := .tuple #[partsV 0 0 0 0 0, .bool false]) ?_ rfl ⟨rfl, (Below.refl _ _).alloc (Nat.le_refl _) _⟩
      simp [results, Tryz.results56, go_sem]
    exact absurd ⟨h3, h7, h10, h19⟩ h'
  · have hl : ((s.size : Int) != 24) = true := by rw [bne_iff_ne]; omega
    clear h'
    go_enter Tryz.func56, Tryz.ntmps56
    go_wp2_with fail
    refine bodyPost_ret (v := .tuple #[partsV 0 0 0 0 0, .bool false]) ?_ rfl ⟨rfl, (Below.refl _ _).alloc (Nat.le_refl _) _⟩
    simp [results, Tryz.results56, go_sem]
end Go.Proofs.YtelgjeeleofgoaaGreatDoor

/- Package date: the third form of a moment's text. -/
namespace Go.Proofs.YtelgjeeleofgoaaGreatDoor
open Go.RowKit
set_option linter.unusedSimpArgs false
set_option linter.unusedVariables false
abbrev KR (w : World) (b : Nat) (W : World) : Prop := Below w.heap.size w W ∧ b + 1 ≤ W.heap.size ∧ W.cell? ⟨b, 0, none⟩ = some (cellOr W b 0) ∧ W.cell? ⟨b, 1, none⟩ = some (cellOr W b 1) ∧ W.cell? ⟨b, 2, none⟩ = some (cellOr W b 2) ∧ W.cell? ⟨b, 3, none⟩ = some (cellOr W b 3) ∧ W.cell? ⟨b, 4, none⟩ = some (cellOr W b 4) ∧ W.frozen? ⟨b, 0, none⟩ = false ∧ W.frozen? ⟨b, 1, none⟩ = false ∧ W.frozen? ⟨b, 2, none⟩ = false ∧ W.frozen? ⟨b, 3, none⟩ = false ∧ W.frozen? ⟨b, 4, none⟩ = false
theorem KR.drew_ {w W : World} {b : Nat} (h : KR w b W) : KR w b W.drew := ⟨h.1.drew, h.2⟩
theorem KR.next {w W W' : World} {b : Nat} (h : KR w b W) (hb : Below W.heap.size W W') : KR w b W' := by
  obtain ⟨g2, s1, r0, r1, r2, r3, r4, f0, f1, f2, f3, f4⟩ := h
  have kb : ∀ o v, W.cell? ⟨b, o, none⟩ = some v → W'.cell? ⟨b, o, none⟩ = some (cellOr W' b o) := fun o v h => cellOr_of ((hb.cell (p := ⟨_, _, _⟩) (by show b < _; omega)).trans h)
  have kf : ∀ o, W.frozen? ⟨b, o, none⟩ = false → W'.frozen? ⟨b, o, none⟩ = false := fun o h => (hb.frozen (p := ⟨_, _, _⟩) (by show b < _; omega)).trans h
  exact ⟨g2.trans (hb.mono g2.size), Nat.le_trans s1 hb.size, kb _ _ r0, kb _ _ r1, kb _ _ r2, kb _ _ r3, kb _ _ r4, kf _ f0, kf _ f1, kf _ f2, kf _ f3, kf _ f4⟩
theorem KR.set_ {w W : World} {b : Nat} (h : KR w b W) (o : Nat) (v : Value) (hw : w.heap.size ≤ b) : KR w b (W.setCell ⟨b, o, none⟩ v) := by
  obtain ⟨g2, s1, r0, r1, r2, r3, r4, f0, f1, f2, f3, f4⟩ := h
  have kb : ∀ q u, W.cell? ⟨b, q, none⟩ = some u → (W.setCell ⟨b, o, none⟩ v).cell? ⟨b, q, none⟩ = some (cellOr (W.setCell ⟨b, o, none⟩ v) b q) := fun q u h => by
    obtain ⟨u', hu'⟩ := cell?_setCell_some (p := ⟨b, o, none⟩) (x := v) h
    exact cellOr_of hu'
  have kf : ∀ q, W.frozen? ⟨b, q, none⟩ = false → (W.setCell ⟨b, o, none⟩ v).frozen? ⟨b, q, none⟩ = false := fun q h => (World.frozen?_setCell _ _ _ _).trans h
  have es : (W.setCell ⟨b, o, none⟩ v).heap.size = W.heap.size := by simp [World.setCell]
  exact ⟨g2.setCell hw _, es ▸ s1, kb _ _ r0, kb _ _ r1, kb _ _ r2, kb _ _ r3, kb _ _ r4, kf _ f0, kf _ f1, kf _ f2, kf _ f3, kf _ f4⟩

set_option maxHeartbeats 8000000 in
set_option maxRecDepth 100000 in
theorem third_yes' (s D0 : ByteArray) (w : World) (hG : Glob w) (hok : thirdOk s = true) (HD0 : Hid (s.extract 8 10 = D0)) :
    Calls Tryz.prog 56 #[.string s] w fun x w' => x = .returned (.tuple #[partsV (amongM cShort (s.extract 0 3)) (numberM (s.extract 20 s.size) 4) (1 + amongM cMonths (s.extract 4 7)) (dayM D0) (clockM (s.extract 11 19)), .bool true]) ∧ Below w.heap.size w w' := by
  obtain ⟨h24, h3, h7, h10, h19⟩ : s.size = 24 ∧ byteAt s 3 = 32 ∧ byteAt s 7 = 32 ∧ byteAt s 10 = 32 ∧ byteAt s 19 = 32 := by simpa [thirdOk] using hok
  clear hok
  have i19 : 19 < s.size := by omega
  have i3 : 3 < s.size := by omega
  have i7 : 7 < s.size := by omega
  have i10 : 10 < s.size := by omega
  have i24 : 24 ≤ s.size := by omega
  have i25 : s.size ≤ 24 := by omega
  have j3 : (3 : Int) ≤ (s.size : Int) := by omega
  have j7 : (7 : Int) ≤ (s.size : Int) := by omega
  have j19 : (19 : Int) ≤ (s.size : Int) := by omega
  have j20 : (20 : Int) ≤ (s.size : Int) := by omega
  have hl : ((s.size : Int) != 24) = false := by simp [h24]
  have y3 : ((s[3].toNat : Int) != 32) = false := by rw [byteAt_eq s 3 i3, h3]; rfl
  have y7 : ((s[7].toNat : Int) != 32) = false := by rw [byteAt_eq s 7 i7, h7]; rfl
  have y10 : ((s[10].toNat : Int) != 32) = false := by rw [byteAt_eq s 10 i10, h10]; rfl
  have y19 : ((s[19].toNat : Int) != 32) = false := by rw [byteAt_eq s 19 i19, h19]; rfl
  clear h24 h3 h7 h10 h19
  go_enter Tryz.func56, Tryz.ntmps56
  go_wp2_with fail
  refine (number_any _ _ _ (by omega) (by simp only [ByteArray.size_extract]; omega)).mono ?_
  rintro x w1 ⟨rfl, hB0⟩
  have hB : Below w.heap.size w w1 := ((Below.refl _ _).alloc (Nat.le_refl _) _).trans (hB0.mono (by simp))
  have hz : w.heap.size + 1 ≤ w1.heap.size := by have := hB0.size; simpa using this
  have r0 : w1.cell? ⟨w.heap.size, 0, none⟩ = some (.int .i64 0) := (hB0.cell (p := ⟨_, _, _⟩) (by simp)).trans (by simp)
  have f0 : w1.frozen? ⟨w.heap.size, 0, none⟩ = false := (hB0.frozen (p := ⟨_, _, _⟩) (by simp)).trans (by simp)
  have r1 : w1.cell? ⟨w.heap.size, 1, none⟩ = some (.int .i64 0) := (hB0.cell (p := ⟨_, _, _⟩) (by simp)).trans (by simp)
  have f1 : w1.frozen? ⟨w.heap.size, 1, none⟩ = false := (hB0.frozen (p := ⟨_, _, _⟩) (by simp)).trans (by simp)
  have r2 : w1.cell? ⟨w.heap.size, 2, none⟩ = some (.int .i64 0) := (hB0.cell (p := ⟨_, _, _⟩) (by simp)).trans (by simp)
  have f2 : w1.frozen? ⟨w.heap.size, 2, none⟩ = false := (hB0.frozen (p := ⟨_, _, _⟩) (by simp)).trans (by simp)
  have r3 : w1.cell? ⟨w.heap.size, 3, none⟩ = some (.int .i64 0) := (hB0.cell (p := ⟨_, _, _⟩) (by simp)).trans (by simp)
  have f3 : w1.frozen? ⟨w.heap.size, 3, none⟩ = false := (hB0.frozen (p := ⟨_, _, _⟩) (by simp)).trans (by simp)
  have r4 : w1.cell? ⟨w.heap.size, 4, none⟩ = some (.int .i64 0) := (hB0.cell (p := ⟨_, _, _⟩) (by simp)).trans (by simp)
  have f4 : w1.frozen? ⟨w.heap.size, 4, none⟩ = false := (hB0.frozen (p := ⟨_, _, _⟩) (by simp)).trans (by simp)
  have hK : KR w w.heap.size w1 := ⟨hB, hz, cellOr_of r0, cellOr_of r1, cellOr_of r2, cellOr_of r3, cellOr_of r4, f0, f1, f2, f3, f4⟩
  have hD : (s.extract 8 10).size = 2 := by simp only [ByteArray.size_extract]; omega
  have hd0 : 0 < (s.extract 8 10).size := by omega
  have hd1 : 1 ≤ (s.extract 8 10).size := by omega
  have hd2 : (s.extract 8 10).size ≤ 2 := by omega
  have e0 := byteAt_eq (s.extract 8 10) 0 hd0
  have n1 := amongM_bd cMonths (s.extract 4 7) (by decide)
  unfold cMonths at n1
  have hw1 := IntWalk.i64_in (1 + amongM ⟨#[74, 97, 110, 32, 70, 101, 98, 32, 77, 97, 114, 32, 65, 112, 114, 32, 77, 97, 121, 32, 74, 117, 110, 32, 74, 117, 108, 32, 65, 117, 103, 32, 83, 101, 112, 32, 79, 99, 116, 32, 78, 111, 118, 32, 68, 101, 99]⟩ (s.extract 4 7)) (by omega)
  have hfin : dayM (s.extract 8 10) = if byteAt (s.extract 8 10) 0 = 32 then numberM ((s.extract 8 10).extract 1 (s.extract 8 10).size) 1 else if byteAt (s.extract 8 10) 0 = 48 then -1 else numberM (s.extract 8 10) 2 := rfl
  have HK := Lib.hid hK
  have HF := Lib.hid hfin
  clear hK hB0 hB r0 r1 r2 r3 r4 f0 f1 f2 f3 f4 hD y3 y7 y10 y19 hl hfin
  generalize s.extract 8 10 = D at *
  obtain rfl := HD0.out
  clear HD0
  go_wp2_with fail
  · refine (number_any _ _ _ (by omega) (by simp only [ByteArray.size_extract]; omega)).mono ?_
    rintro x w2 ⟨rfl, hb0⟩
    have hv : numberM (D.extract 1 D.size) 1 = dayM D := by rw [HF.out, if_pos (by have := beq_iff_eq.1 (‹((byteAt D 0 : Int) == 32) = true›); omega)]
    have HV := Lib.hid hv
    have HK2 := Lib.hid (HK.out.next hb0)
    clear HK hb0 hv
    have HK := HK2
    clear HK2
    go_wp2_with fail
    clear HF hd0 hd1 hd2 e0
    go_region_held3 (fun W => Below w.heap.size w W ∧ w.heap.size + 1 ≤ W.heap.size ∧ W.cell? ⟨w.heap.size, 0, none⟩ = some (cellOr W w.heap.size 0) ∧ W.cell? ⟨w.heap.size, 1, none⟩ = some (cellOr W w.heap.size 1) ∧ W.cell? ⟨w.heap.size, 2, none⟩ = some (cellOr W w.heap.size 2) ∧ W.cell? ⟨w.heap.size, 3, none⟩ = some (cellOr W w.heap.size 3) ∧ W.cell? ⟨w.heap.size, 4, none⟩ = some (cellOr W w.heap.size 4) ∧ W.frozen? ⟨w.heap.size, 0, none⟩ = false ∧ W.frozen? ⟨w.heap.size, 1, none⟩ = false ∧ W.frozen? ⟨w.heap.size, 2, none⟩ = false ∧ W.frozen? ⟨w.heap.size, 3, none⟩ = false ∧ W.frozen? ⟨w.heap.size, 4, none⟩ = false) (first | (with_reducible assumption) | (with_reducible exact KR.drew_ HK.out) | (with_reducible exact KR.next (by assumption) hb) | (with_reducible exact KR.next (KR.drew_ HK.out) hb) | (with_reducible exact KR.set_ (KR.set_ (KR.set_ (KR.set_ (KR.set_ (by assumption) _ _ (Nat.le_refl _)) _ _ (Nat.le_refl _)) _ _ (Nat.le_refl _)) _ _ (Nat.le_refl _)) _ _ (Nat.le_refl _))) (first | (go_at_call 85; refine (among_any _ _ _ (hG.below (And.left (by with_reducible assumption))) (by decide) (ascii_of (by decide))).mono ?_; rintro x w' ⟨rfl, hb⟩) | (go_at_call 85; refine (among_any _ _ _ (hG.below (KR.drew_ HK.out).1) (by decide) (ascii_of (by decide))).mono ?_; rintro x w' ⟨rfl, hb⟩) | (go_at_call 87; refine (number_any _ _ _ (by omega) (by simp only [ByteArray.size_extract]; omega)).mono ?_; rintro x w' ⟨rfl, hb⟩) | (go_at_call 88; refine (clock_any _ _ (hG.below (And.left (by with_reducible assumption))) (by simp only [ByteArray.size_extract]; omega)).mono ?_; rintro x w' ⟨rfl, hb⟩) | (go_at_call 88; refine (clock_any _ _ (hG.below (KR.drew_ HK.out).1) (by simp only [ByteArray.size_extract]; omega)).mono ?_; rintro x w' ⟨rfl, hb⟩))
    rename_i hH
    obtain ⟨hBe, _, r0, r1, r2, r3, r4, _⟩ := hH
    obtain ⟨q0, q1, q2, q3, q4⟩ := five_cells _ _ _ _ _ _ _ _ rfl r0 r1 r2 r3 r4
    clear r0 r1 r2 r3 r4
    generalize World.setCell _ _ _ = W at *
    clear HK hb n1
    try rw [hw1] at q2
    clear hw1
    go_wp2_with fail
    refine bodyPost_ret (v := .tuple #[partsV (amongM cShort (s.extract 0 3)) (numberM (s.extract 20 s.size) 4) (1 + amongM cMonths (s.extract 4 7)) (dayM D) (clockM (s.extract 11 19)), .bool true]) ?_ rfl ⟨rfl, hBe⟩
    rw [← HV.out]
    simp [results, Tryz.results56, go_sem, q0, q1, q2, q3, q4, cShort, cMonths]
  · have hv : (-1 : Int) = dayM D := by rw [HF.out, if_neg (by have := beq_eq_false_iff_ne.1 (‹((byteAt D 0 : Int) == 32) = false›); omega), if_pos (by have := beq_iff_eq.1 (‹((byteAt D 0 : Int) == 48) = true›); omega)]
    have HV := Lib.hid hv
    clear hv
    clear HF hd0 hd1 hd2 e0
    go_region_held3 (fun W => Below w.heap.size w W ∧ w.heap.size + 1 ≤ W.heap.size ∧ W.cell? ⟨w.heap.size, 0, none⟩ = some (cellOr W w.heap.size 0) ∧ W.cell? ⟨w.heap.size, 1, none⟩ = some (cellOr W w.heap.size 1) ∧ W.cell? ⟨w.heap.size, 2, none⟩ = some (cellOr W w.heap.size 2) ∧ W.cell? ⟨w.heap.size, 3, none⟩ = some (cellOr W w.heap.size 3) ∧ W.cell? ⟨w.heap.size, 4, none⟩ = some (cellOr W w.heap.size 4) ∧ W.frozen? ⟨w.heap.size, 0, none⟩ = false ∧ W.frozen? ⟨w.heap.size, 1, none⟩ = false ∧ W.frozen? ⟨w.heap.size, 2, none⟩ = false ∧ W.frozen? ⟨w.heap.size, 3, none⟩ = false ∧ W.frozen? ⟨w.heap.size, 4, none⟩ = false) (first | (with_reducible assumption) | (with_reducible exact KR.drew_ HK.out) | (with_reducible exact KR.next (by assumption) hb) | (with_reducible exact KR.next (KR.drew_ HK.out) hb) | (with_reducible exact KR.set_ (KR.set_ (KR.set_ (KR.set_ (KR.set_ (by assumption) _ _ (Nat.le_refl _)) _ _ (Nat.le_refl _)) _ _ (Nat.le_refl _)) _ _ (Nat.le_refl _)) _ _ (Nat.le_refl _))) (first | (go_at_call 85; refine (among_any _ _ _ (hG.below (And.left (by with_reducible assumption))) (by decide) (ascii_of (by decide))).mono ?_; rintro x w' ⟨rfl, hb⟩) | (go_at_call 85; refine (among_any _ _ _ (hG.below (KR.drew_ HK.out).1) (by decide) (ascii_of (by decide))).mono ?_; rintro x w' ⟨rfl, hb⟩) | (go_at_call 87; refine (number_any _ _ _ (by omega) (by simp only [ByteArray.size_extract]; omega)).mono ?_; rintro x w' ⟨rfl, hb⟩) | (go_at_call 88; refine (clock_any _ _ (hG.below (And.left (by with_reducible assumption))) (by simp only [ByteArray.size_extract]; omega)).mono ?_; rintro x w' ⟨rfl, hb⟩) | (go_at_call 88; refine (clock_any _ _ (hG.below (KR.drew_ HK.out).1) (by simp only [ByteArray.size_extract]; omega)).mono ?_; rintro x w' ⟨rfl, hb⟩))
    rename_i hH
    obtain ⟨hBe, _, r0, r1, r2, r3, r4, _⟩ := hH
    obtain ⟨q0, q1, q2, q3, q4⟩ := five_cells _ _ _ _ _ _ _ _ rfl r0 r1 r2 r3 r4
    clear r0 r1 r2 r3 r4
    generalize World.setCell _ _ _ = W at *
    clear HK hb n1
    try rw [hw1] at q2
    clear hw1
    go_wp2_with fail
    refine bodyPost_ret (v := .tuple #[partsV (amongM cShort (s.extract 0 3)) (numberM (s.extract 20 s.size) 4) (1 + amongM cMonths (s.extract 4 7)) (dayM D) (clockM (s.extract 11 19)), .bool true]) ?_ rfl ⟨rfl, hBe⟩
    rw [← HV.out]
    simp [results, Tryz.results56, go_sem, q0, q1, q2, q3, q4, cShort, cMonths]
  · have hv : numberM D 2 = dayM D := by rw [HF.out, if_neg (by have := beq_eq_false_iff_ne.1 (‹((byteAt D 0 : Int) == 32) = false›); omega), if_neg (by have := beq_eq_false_iff_ne.1 (‹((byteAt D 0 : Int) == 48) = false›); omega)]
    have HV := Lib.hid hv
    clear hv
    clear HF hd0 hd1 hd2 e0
    go_region_held3 (fun W => Below w.heap.size w W ∧ w.heap.size + 1 ≤ W.heap.size ∧ W.cell? ⟨w.heap.size, 0, none⟩ = some (cellOr W w.heap.size 0) ∧ W.cell? ⟨w.heap.size, 1, none⟩ = some (cellOr W w.heap.size 1) ∧ W.cell? ⟨w.heap.size, 2, none⟩ = some (cellOr W w.heap.size 2) ∧ W.cell? ⟨w.heap.size, 3, none⟩ = some (cellOr W w.heap.size 3) ∧ W.cell? ⟨w.heap.size, 4, none⟩ = some (cellOr W w.heap.size 4) ∧ W.frozen? ⟨w.heap.size, 0, none⟩ = false ∧ W.frozen? ⟨w.heap.size, 1, none⟩ = false ∧ W.frozen? ⟨w.heap.size, 2, none⟩ = false ∧ W.frozen? ⟨w.heap.size, 3, none⟩ = false ∧ W.frozen? ⟨w.heap.size, 4, none⟩ = false) (first | (with_reducible assumption) | (with_reducible exact KR.drew_ HK.out) | (with_reducible exact KR.next (by assumption) hb) | (with_reducible exact KR.next (KR.drew_ HK.out) hb) | (with_reducible exact KR.set_ (KR.set_ (KR.set_ (KR.set_ (KR.set_ (by assumption) _ _ (Nat.le_refl _)) _ _ (Nat.le_refl _)) _ _ (Nat.le_refl _)) _ _ (Nat.le_refl _)) _ _ (Nat.le_refl _))) (first | (go_at_call 85; refine (among_any _ _ _ (hG.below (And.left (by with_reducible assumption))) (by decide) (ascii_of (by decide))).mono ?_; rintro x w' ⟨rfl, hb⟩) | (go_at_call 85; refine (among_any _ _ _ (hG.below (KR.drew_ HK.out).1) (by decide) (ascii_of (by decide))).mono ?_; rintro x w' ⟨rfl, hb⟩) | (go_at_call 87; refine (number_any _ _ _ (by omega) (by simp only [ByteArray.size_extract]; omega)).mono ?_; rintro x w' ⟨rfl, hb⟩) | (go_at_call 88; refine (clock_any _ _ (hG.below (And.left (by with_reducible assumption))) (by simp only [ByteArray.size_extract]; omega)).mono ?_; rintro x w' ⟨rfl, hb⟩) | (go_at_call 88; refine (clock_any _ _ (hG.below (KR.drew_ HK.out).1) (by simp only [ByteArray.size_extract]; omega)).mono ?_; rintro x w' ⟨rfl, hb⟩))
    rename_i hH
    obtain ⟨hBe, _, r0, r1, r2, r3, r4, _⟩ := hH
    obtain ⟨q0, q1, q2, q3, q4⟩ := five_cells _ _ _ _ _ _ _ _ rfl r0 r1 r2 r3 r4
    clear r0 r1 r2 r3 r4
    generalize World.setCell _ _ _ = W at *
    clear HK hb n1
    try rw [hw1] at q2
    clear hw1
    go_wp2_with fail
    refine bodyPost_ret (v := .tuple #[partsV (amongM cShort (s.extract 0 3)) (numberM (s.extract 20 s.size) 4) (1 + amongM cMonths (s.extract 4 7)) (dayM D) (clockM (s.extract 11 19)), .bool true]) ?_ rfl ⟨rfl, hBe⟩
    rw [← HV.out]
    simp [results, Tryz.results56, go_sem, q0, q1, q2, q3, q4, cShort, cMonths]
theorem third_yes (s : ByteArray) (w : World) (hG : Glob w) (hok : thirdOk s = true) :
    Calls Tryz.prog 56 #[.string s] w fun x w' => x = .returned (.tuple #[partsV (amongM cShort (s.extract 0 3)) (numberM (s.extract 20 s.size) 4) (1 + amongM cMonths (s.extract 4 7)) (dayM (s.extract 8 10)) (clockM (s.extract 11 19)), .bool true]) ∧ Below w.heap.size w w' :=
  third_yes' s _ w hG hok (Lib.hid rfl)
end Go.Proofs.YtelgjeeleofgoaaGreatDoor

/- Package date: a text in any of the three forms. -/
namespace Go.Proofs.YtelgjeeleofgoaaGreatDoor
open Go.RowKit
set_option linter.unusedSimpArgs false
set_option linter.unusedVariables false
attribute [local go_sem] max2_int min2_int max_two min_two

theorem first_some (s : ByteArray) {wd y m d c : Int} (h : firstM s = some (wd, y, m, d, c)) (w : World) (hG : Glob w) (hs : s.size < 4294967281) :
    (-1 ≤ c ∧ c ≤ 86399) ∧ Calls Tryz.prog 53 #[.string s] w fun x w' => x = .returned (.tuple #[partsV wd y m d c, .bool true]) ∧ Below w.heap.size w w' := by
  unfold firstM at h
  split at h
  · rename_i hL
    split at h
    · rename_i hf
      simp only [Option.some.injEq, Prod.mk.injEq] at h
      obtain ⟨rfl, rfl, rfl, rfl, rfl⟩ := h
      exact ⟨clockM_bd _, first_yes s _ _ _ _ _ _ w hG hs hL hf.1 hf.2⟩
    · cases h
  · cases h
theorem second_some (s : ByteArray) (now : Int) {wd y m d c : Int} (h : secondM s now = some (wd, y, m, d, c)) (w : World) (hG : Glob w) (hs : s.size < 4294967281) (hn0 : 0 ≤ now) (hn1 : now ≤ 220752000000) :
    (-1 ≤ c ∧ c ≤ 86399) ∧ Calls Tryz.prog 55 #[.string s, .int .i64 now] w fun x w' => x = .returned (.tuple #[partsV wd y m d c, .bool true]) ∧ Below w.heap.size w w' := by
  unfold secondM at h
  split at h
  · rename_i hL
    split at h
    · rename_i hf
      split at h
      · rename_i hL2
        simp only [Option.some.injEq, Prod.mk.injEq] at h
        obtain ⟨rfl, rfl, rfl, rfl, rfl⟩ := h
        exact ⟨clockM_bd _, second_yes s _ _ _ _ _ _ _ now w hG hs hn0 hn1 hL hf.1 hf.2 hL2⟩
      · cases h
    · cases h
  · cases h
theorem third_some (s : ByteArray) {wd y m d c : Int} (h : thirdM s = some (wd, y, m, d, c)) (w : World) (hG : Glob w) :
    (-1 ≤ c ∧ c ≤ 86399) ∧ Calls Tryz.prog 56 #[.string s] w fun x w' => x = .returned (.tuple #[partsV wd y m d c, .bool true]) ∧ Below w.heap.size w w' := by
  unfold thirdM at h
  split at h
  · rename_i hok
    simp only [Option.some.injEq, Prod.mk.injEq] at h
    obtain ⟨rfl, rfl, rfl, rfl, rfl⟩ := h
    exact ⟨clockM_bd _, third_yes s w hG hok⟩
  · cases h
theorem third_none (s : ByteArray) (h : thirdM s = none) (w : World) (hs : s.size < 4294967281) :
    Calls Tryz.prog 56 #[.string s] w fun x w' => x = .returned (.tuple #[partsV 0 0 0 0 0, .bool false]) ∧ Below w.heap.size w w' := by
  refine third_no s w hs ?_
  unfold thirdM at h
  split at h
  · cases h
  · simpa using ‹¬ thirdOk s = true›

def clampM (lo hi n : Int) : Int := if lo < (if hi < n then hi else n) then (if hi < n then hi else n) else lo
theorem clampM_bd (lo hi n : Int) (h : lo ≤ hi) : lo ≤ clampM lo hi n ∧ clampM lo hi n ≤ hi := by unfold clampM; (repeat' split) <;> omega
def gotM (p : P5) : Option Int := if secsOk p.1 p.2.1 p.2.2.1 p.2.2.2.1 p.2.2.2.2 then some (secsM p.1 p.2.1 p.2.2.1 p.2.2.2.1 p.2.2.2.2) else none
noncomputable def parseM (s : ByteArray) (now : Int) : Option Int :=
  match firstM s with
  | some p => gotM p
  | none =>
    match secondM s (clampM 0 220752000000 now) with
    | some p => gotM p
    | none =>
      match thirdM s with
      | some p => gotM p
      | none => none
/-- An optional number as two results. -/
abbrev optV (o : Option Int) : Value := .tuple #[.int .i64 (o.getD 0), .bool o.isSome]
theorem secs_got (wd y m d c : Int) (w : World) (hc : -1 ≤ c) (hc1 : c ≤ 86399) :
    Calls Tryz.prog 54 #[partsV wd y m d c] w fun e w' => e = .returned (optV (gotM (wd, y, m, d, c))) ∧ Below w.heap.size w w' := by
  refine (secs_any wd y m d c w hc hc1).mono ?_
  rintro e w' ⟨rfl, hb⟩
  refine ⟨?_, hb⟩
  unfold gotM
  dsimp only
  split <;> rfl

set_option maxHeartbeats 4000000 in
set_option maxRecDepth 100000 in
theorem parse_any (s : ByteArray) (now : Int) (w : World) (hG : Glob w) (hs : s.size < 4294967281) :
    Calls Tryz.prog 29 #[.string s, .int .i64 now] w fun e w' => e = .returned (optV (parseM s now)) ∧ Below w.heap.size w w' := by
  obtain ⟨o, ho⟩ : ∃ o, parseM s now = o := ⟨_, rfl⟩
  rw [ho]
  obtain ⟨nw, hnw⟩ : ∃ n, clampM 0 220752000000 now = n := ⟨_, rfl⟩
  have hb := clampM_bd 0 220752000000 now (by omega)
  rw [hnw] at hb
  obtain ⟨n0, n1⟩ := hb
  have hcl : (if 0 < (if 220752000000 < now then 220752000000 else now) then (if 220752000000 < now then 220752000000 else now) else 0) = nw := hnw
  have HCL := Lib.hid hcl
  have hmm : Builtin.max_ #[3, 3] 3 #[.int .i64 0, .int .i64 (if 220752000000 < now then 220752000000 else now)] = pure (.int .i64 nw) := by
    rw [max_two, max2_int, hcl]; rfl
  unfold parseM at ho
  rw [hnw] at ho
  clear hnw hcl
  cases hF : firstM s with
  | some p =>
    obtain ⟨wd, y, m, d, c⟩ := p
    rw [hF] at ho
    have HO := Lib.hid ho
    have HF := fun W hW => first_some s hF W hW hs
    obtain ⟨c0, c1⟩ := (HF w hG).1
    have HF' := Lib.hid HF
    clear HF hF ho
    go_enter Tryz.func29, Tryz.ntmps29
    go_wp2_with fail
    all_goals
      refine (HF'.out _ hG).2.mono ?_
      rintro e w1 ⟨rfl, hB⟩
      go_wp2_with fail
      refine (secs_got _ _ _ _ _ _ c0 c1).mono ?_
      rw [show gotM (wd, y, m, d, c) = o from HO.out]
      rintro e w2 ⟨rfl, hB2⟩
      go_wp2_with fail
      go_ret2
      exact ⟨rfl, (hB.alloc hB.size _).trans (hB2.mono (by have := hB.size; simp; omega))⟩
  | none =>
    rw [hF] at ho
    have HF := Lib.hid (fun W hW => first_no s W hW hs hF)
    clear hF
    cases hS : secondM s nw with
    | some p =>
      obtain ⟨wd, y, m, d, c⟩ := p
      rw [hS] at ho
      have HO := Lib.hid ho
      have HS := fun W hW => second_some s nw hS W hW hs n0 n1
      obtain ⟨c0, c1⟩ := (HS w hG).1
      have HS' : Hid (∀ n' W, n' = nw → Glob W → Calls Tryz.prog 55 #[.string s, .int .i64 n'] W fun x w' => x = .returned (.tuple #[partsV wd y m d c, .bool true]) ∧ Below W.heap.size W w') := Lib.hid fun n' W e hW => e ▸ (HS W hW).2
      clear HS hS ho
      go_enter Tryz.func29, Tryz.ntmps29
      go_wp2_with fail
      all_goals
        refine (HF.out _ hG).mono ?_
        rintro e w1 ⟨rfl, hB⟩
        have hB1 := hB.alloc hB.size (.cells #[.int .i64 0, .int .i64 0, .int .i64 0, .int .i64 0, .int .i64 0] 72)
        go_wp2_with fail
        refine (HS'.out _ _ (by rw [← HCL.out] <;> (repeat' split) <;> omega) (hG.below hB1)).mono ?_
        rintro e w2 ⟨rfl, hB2⟩
        have hB3 := hB1.trans (hB2.mono hB1.size)
        have hB4 := hB3.alloc hB3.size (.cells #[.int .i64 wd, .int .i64 y, .int .i64 m, .int .i64 d, .int .i64 c] 72)
        go_wp2_with fail
        refine (secs_got _ _ _ _ _ _ c0 c1).mono ?_
        rw [show gotM (wd, y, m, d, c) = o from HO.out]
        rintro e w3 ⟨rfl, hB5⟩
        go_wp2_with fail
        go_ret2
        exact ⟨rfl, hB4.trans (hB5.mono hB4.size)⟩
    | none =>
      rw [hS] at ho
      have HS : Hid (∀ n' W, n' = nw → Glob W → Calls Tryz.prog 55 #[.string s, .int .i64 n'] W fun x w' => x = .returned (.tuple #[partsV 0 0 0 0 0, .bool false]) ∧ Below W.heap.size W w') := Lib.hid fun n' W e hW => e ▸ (second_no s nw W hW hs hS)
      clear hS
      cases hT : thirdM s with
      | some p =>
        obtain ⟨wd, y, m, d, c⟩ := p
        rw [hT] at ho
        have HO := Lib.hid ho
        have HT := fun W hW => third_some s hT W hW
        obtain ⟨c0, c1⟩ := (HT w hG).1
        have HT' := Lib.hid HT
        clear HT hT ho
        go_enter Tryz.func29, Tryz.ntmps29
        go_wp2_with fail
        all_goals
          refine (HF.out _ hG).mono ?_
          rintro e w1 ⟨rfl, hB⟩
          have hB1 := hB.alloc hB.size (.cells #[.int .i64 0, .int .i64 0, .int .i64 0, .int .i64 0, .int .i64 0] 72)
          go_wp2_with fail
          refine (HS.out _ _ (by rw [← HCL.out] <;> (repeat' split) <;> omega) (hG.below hB1)).mono ?_
          rintro e w2 ⟨rfl, hB2⟩
          have hB3 := hB1.trans (hB2.mono hB1.size)
          have hB4 := hB3.alloc hB3.size (.cells #[.int .i64 0, .int .i64 0, .int .i64 0, .int .i64 0, .int .i64 0] 72)
          go_wp2_with fail
          refine (HT'.out _ (hG.below hB4)).2.mono ?_
          rintro e w3 ⟨rfl, hB5⟩
          have hB6 := hB4.trans (hB5.mono hB4.size)
          have hB7 := hB6.alloc hB6.size (.cells #[.int .i64 wd, .int .i64 y, .int .i64 m, .int .i64 d, .int .i64 c] 72)
          go_wp2_with fail
          refine (secs_got _ _ _ _ _ _ c0 c1).mono ?_
          rw [show gotM (wd, y, m, d, c) = o from HO.out]
          rintro e w4 ⟨rfl, hB8⟩
          go_wp2_with fail
          go_ret2
          exact ⟨rfl, hB7.trans (hB8.mono hB7.size)⟩
      | none =>
        rw [hT] at ho
        obtain rfl : none = o := ho
        have HT := Lib.hid (fun W => third_none s hT W hs)
        clear hT
        go_enter Tryz.func29, Tryz.ntmps29
        go_wp2_with fail
        all_goals
          refine (HF.out _ hG).mono ?_
          rintro e w1 ⟨rfl, hB⟩
          have hB1 := hB.alloc hB.size (.cells #[.int .i64 0, .int .i64 0, .int .i64 0, .int .i64 0, .int .i64 0] 72)
          go_wp2_with fail
          refine (HS.out _ _ (by rw [← HCL.out] <;> (repeat' split) <;> omega) (hG.below hB1)).mono ?_
          rintro e w2 ⟨rfl, hB2⟩
          have hB3 := hB1.trans (hB2.mono hB1.size)
          have hB4 := hB3.alloc hB3.size (.cells #[.int .i64 0, .int .i64 0, .int .i64 0, .int .i64 0, .int .i64 0] 72)
          go_wp2_with fail
          refine (HT.out _).mono ?_
          rintro e w3 ⟨rfl, hB5⟩
          have hB6 := hB4.trans (hB5.mono hB4.size)
          have hB7 := hB6.alloc hB6.size (.cells #[.int .i64 0, .int .i64 0, .int .i64 0, .int .i64 0, .int .i64 0] 72)
          go_wp2_with fail
          go_ret2
          exact ⟨rfl, hB7⟩
end Go.Proofs.YtelgjeeleofgoaaGreatDoor

/- Package feed: numbers of digits, names, seconds. -/
namespace Go.Proofs.YtelgjeeleofgoaaGreatDoor
open Go.RowKit
set_option linter.unusedSimpArgs false
set_option linter.unusedVariables false
attribute [local go_sem] max2_int min2_int max_two min_two

/-- What strconv.Atoi tells of a text of digits. -/
theorem atoi_yes (s : ByteArray) (w : World) (hs : s.size < 4294967281) (hd : digs s.data.toList = true) (hne : s.data.toList ≠ []) (h : numv s.data.toList ≤ 9223372036854775807) :
    Calls Tryz.prog 52 #[.string s] w fun e w' => e = .returned (.tuple #[.int .i64 (numv s.data.toList), .nilIface]) ∧ Below w.heap.size w w' := by
  refine (Tryz.strconv_Atoi_ok s (by omega) (numv s.data.toList) (by rw [atoi_digs _ hd hne, if_pos h]) w).mono ?_
  rintro e w' ⟨rfl, h | ⟨t, h⟩⟩
  · rw [h]; exact ⟨rfl, Below.refl _ _⟩
  · rw [h]; exact ⟨rfl, Lib.bytesWorld_below w _ t⟩
/-- Atoi's error: a value that is not nil. -/
abbrev errV (N : Nat) : Value := .iface 123 (.pointer (some ⟨N, 0, none⟩))
theorem atoi_big (s : ByteArray) (w : World) (hG : Glob w) (hs : s.size < 4294967281) (hd : digs s.data.toList = true) (hne : s.data.toList ≠ []) (h : ¬ numv s.data.toList ≤ 9223372036854775807) :
    Calls Tryz.prog 52 #[.string s] w fun e w' => (∃ n N, e = .returned (.tuple #[.int .i64 n, errV N])) ∧ Below w.heap.size w w' := by
  obtain ⟨te, pe, hv⟩ := hG.rng
  refine (Tryz.strconv_Atoi_range s (by omega) (by rw [atoi_digs _ hd hne, if_neg h]) _ w hv (.inr ⟨te, pe, rfl⟩)).mono ?_
  rintro e w' ⟨N, he, _, _, hb⟩
  exact ⟨⟨_, N, he⟩, hb⟩
end Go.Proofs.YtelgjeeleofgoaaGreatDoor

/- The reader of package field: digits, with a sign ahead of them perhaps. -/
namespace Go.Proofs.YtelgjeeleofgoaaGreatDoor
open Go.RowKit
set_option linter.unusedSimpArgs false
set_option linter.unusedVariables false

theorem tl_le (l : Bs) (c : Int) : (tl l c).length ≤ l.length := by
  unfold tl
  split
  · simp
  · exact Nat.le_refl _
/-- The library's variables lie below block g. -/
def GlobLt (g : Nat) : Prop := 5 < g ∧ 4 < g ∧ 2 < g ∧ 3 < g
theorem Glob.lt {w : World} {g : Nat} (h : Glob w) (hg : w.heap.size ≤ g) : GlobLt g := by
  obtain ⟨⟨m, h1⟩, h2, ⟨te, pe, h3⟩, h5, ⟨te', pe', h4⟩⟩ := h
  have l1 := World.block_lt_of_cell? w _ h1
  have l3 := World.block_lt_of_cell? w _ h3
  have l4 := World.block_lt_of_cell? w _ h4
  exact ⟨Nat.lt_of_lt_of_le l1 hg, Nat.lt_of_lt_of_le h5 hg, Nat.lt_of_lt_of_le l3 hg, Nat.lt_of_lt_of_le l4 hg⟩
theorem Glob.but {g : Nat} {w w' : World} (h : Glob w) (hg : GlobLt g) (hb : But g w w') : Glob w' := by
  obtain ⟨⟨m, h1⟩, h2, ⟨te, pe, h3⟩, h5, ⟨te', pe', h4⟩⟩ := h
  obtain ⟨g1, g2, g3, g4⟩ := hg
  have keep : ∀ a v, a.block < g → w.cell? a = some v → w'.cell? a = some v := fun a v ha h => by
    rw [World.cell?_of_block (w := w) (hb.block a.block (World.block_lt_of_cell? w a h) (by omega))]; exact h
  have hbl : Below (4 + 1) w w' := ⟨hb.os, hb.tape, hb.output, hb.size, fun k hk => hb.block k (by omega) (by omega)⟩
  exact ⟨⟨m, keep _ _ g1 h1⟩, var?_below hbl (by kernel_rfl) (Nat.lt_succ_self 4) h2, ⟨te, pe, keep _ _ g3 h3⟩, Nat.lt_of_lt_of_le h5 hb.size, ⟨te', pe', keep _ _ g4 h4⟩⟩
theorem digs_take (l : Bs) : digs (l.takeWhile FM.digit) = true := by
  induction l with
  | nil => rfl
  | cons c r ih =>
    rw [List.takeWhile_cons]
    split
    · rename_i h
      have h' : dig c = true := h
      simp only [digs, List.all_cons, h', Bool.true_and] at ih ⊢
      exact ih
    · rfl
theorem atoi_none (w : World) (hG : Glob w) :
    Calls Tryz.prog 52 #[.string (bs [])] w fun e w' => (∃ n N, e = .returned (.tuple #[.int .i64 n, errV N])) ∧ Below w.heap.size w w' := by
  obtain ⟨te, pe, hv⟩ := hG.syn
  refine (Tryz.strconv_Atoi_syntax (bs []) (by rw [bs_size]; simp) (by rw [bs_data]; first | done | rfl) _ w hv (.inr ⟨te, pe, rfl⟩)).mono ?_
  rintro e w' ⟨N, he, _, _, hb⟩
  exact ⟨⟨_, N, he⟩, hb⟩
def IsInt (v : Value) : Prop := ∃ n : Int, v = .int .i64 n

set_option maxHeartbeats 4000000 in
theorem number_yes (g : Nat) (l T D : Bs) (neg : Bool) (w : World) (h : Rd g l false w) (hG : Glob w) (hg : GlobLt g) (hl : l.length < 4294967281) (hneg : hd l 45 = neg)
    (hT : (tl l 45).takeWhile FM.digit = T) (hD : (tl l 45).dropWhile FM.digit = D) (h0 : 1 ≤ T.length) (h15 : T.length ≤ 15) :
    Calls Tryz.prog 147 #[.pointer (some ⟨g, 0, none⟩)] w fun e w' => e = .returned (.int .i64 (if neg then -(FM.num T) else FM.num T)) ∧ Rd g D false w' ∧ But g w w' := by
  have hdg : digs T = true := by rw [← hT]; exact digs_take _
  have hb := numv_bd 15 T h15 hdg
  have hA : ∀ W, Calls Tryz.prog 52 #[.string (bs T)] W fun e w' => e = .returned (.tuple #[.int .i64 (numv T), .nilIface]) ∧ Below W.heap.size W w' := fun W => by
    have := atoi_yes (bs T) W (by rw [bs_size]; omega) (by rw [bs_data]; exact hdg) (by rw [bs_data]; intro e; rw [e] at h0; simp at h0) (by rw [bs_data]; omega)
    rw [bs_data] at this
    exact this
  have hn : FM.num T = numv T := rfl
  rw [hn]
  have hTk := take_any g l false 45 w h hl
  rw [hneg] at hTk
  have hl2 : (tl l 45).length < 4294967281 := by have := tl_le l 45; omega
  have hS : ∀ W, Rd g (tl l 45) false W → Calls Tryz.prog 123 #[.pointer (some ⟨g, 0, none⟩), .func (.func 146) #[] #[]] W fun e w' => e = .returned (.string (bs T)) ∧ Rd g D false w' ∧ But g W w' := fun W hW => by
    have := span_digit g _ false W hW hl2
    rw [hT, hD] at this
    exact this
  have hsz : (bs T).size = T.length := bs_size T
  have hs1 : decide ((15 : Int) < ((bs T).size : Int)) = false := by simp; omega
  generalize numv T = n at *
  obtain ⟨n0, n1⟩ := hb
  have n2 : n ≤ 1000000000000000 := by omega
  have HA := Lib.hid hA
  have HTk := Lib.hid hTk
  have HS := Lib.hid hS
  clear hA hTk hS hT hD hdg hn hsz hl2 h0 h15 h hl hneg n1
  generalize tl l 45 = m at *
  cases neg
  all_goals
    simp only [if_true, if_false, Bool.false_eq_true]
    go_enter Tryz.func147, Tryz.ntmps147
    go_wp2_with fail
    refine HTk.out.mono ?_
    rintro e w1 ⟨rfl, hR1, hB1⟩
    go_wp2_with fail
    refine (HS.out _ hR1).mono ?_
    rintro e w2 ⟨rfl, hR2, hB2⟩
    go_wp2_with fail
    refine (HA.out _).mono ?_
    rintro e w3 ⟨rfl, hB3⟩
    have hR3 := hR2.below hB3
    have hB := (hB1.trans hB2).trans (But.of_below hB3)
    have c1 := hR3.c1
    have f1 := hR3.f1
    have HR := Lib.hid hR3
    clear hR1 hR2 hR3 hB1 hB2 hB3
    go_wp2
    go_ret
    exact ⟨rfl, HR.out.set1, hB.set _ _⟩

/-- What a number's digits come to at Atoi, of whatever length. -/
def AtoiAny (w : World) (e : Ending) (w' : World) : Prop := (∃ n ev, e = .returned (.tuple #[.int .i64 n, ev]) ∧ (ev = .nilIface ∨ ∃ N, ev = errV N)) ∧ Below w.heap.size w w'
theorem atoi_any (T : Bs) (w : World) (hG : Glob w) (hl : T.length < 4294967281) (hd : digs T = true) :
    (1 ≤ T.length → Calls Tryz.prog 52 #[.string (bs T)] w (AtoiAny w)) := by
  intro h0
  have hne : (bs T).data.toList ≠ [] := by rw [bs_data]; intro e; rw [e] at h0; simp at h0
  by_cases h : numv (bs T).data.toList ≤ 9223372036854775807
  · refine (atoi_yes (bs T) w (by rw [bs_size]; omega) (by rw [bs_data]; exact hd) hne h).mono ?_
    rintro e w' ⟨rfl, hb⟩
    exact ⟨⟨_, _, rfl, .inl rfl⟩, hb⟩
  · refine (atoi_big (bs T) w hG (by rw [bs_size]; omega) (by rw [bs_data]; exact hd) hne h).mono ?_
    rintro e w' ⟨⟨n, N, rfl⟩, hb⟩
    exact ⟨⟨_, _, rfl, .inr ⟨N, rfl⟩⟩, hb⟩
set_option maxHeartbeats 8000000 in
theorem number_no (g : Nat) (l T : Bs) (bad : Bool) (w : World) (h : Rd g l bad w) (hG : Glob w) (hg : GlobLt g) (hl : l.length < 4294967281)
    (hT : (tl l 45).takeWhile FM.digit = T) (hno : bad = true ∨ T.length = 0 ∨ 15 < T.length) :
    Calls Tryz.prog 147 #[.pointer (some ⟨g, 0, none⟩)] w (Gone g l.length IsInt w) := by
  have hdg : digs T = true := by rw [← hT]; exact digs_take _
  have hTk := take_any g l bad 45 w h hl
  have hl1 := tl_le l 45
  have hl2 : (tl l 45).length < 4294967281 := by omega
  obtain ⟨D, hD⟩ : ∃ D, (tl l 45).dropWhile FM.digit = D := ⟨_, rfl⟩
  have hDl : D.length ≤ l.length := by have := FM.dropWhile_le FM.digit (tl l 45); rw [hD] at this; omega
  have hTl : T.length < 4294967281 := by have := FM.takeWhile_le FM.digit (tl l 45); rw [hT] at this; omega
  have hS : ∀ W, Rd g (tl l 45) bad W → Calls Tryz.prog 123 #[.pointer (some ⟨g, 0, none⟩), .func (.func 146) #[] #[]] W fun e w' => e = .returned (.string (bs T)) ∧ Rd g D bad w' ∧ But g W w' := fun W hW => by
    have := span_digit g _ bad W hW hl2
    rw [hT, hD] at this
    exact this
  have hsz : (bs T).size = T.length := bs_size T
  have HTk := Lib.hid hTk
  have HS := Lib.hid hS
  clear hTk hS hT hD h hl hl1 hl2
  generalize tl l 45 = m at *
  generalize hd l 45 = neg at *
  by_cases h0 : T.length = 0
  · obtain rfl : T = [] := List.length_eq_zero_iff.1 h0
    have HA := Lib.hid (fun W (hW : Glob W) => atoi_none W hW)
    clear hdg hno h0 hsz hTl
    cases neg <;> cases bad
    all_goals
      go_enter Tryz.func147, Tryz.ntmps147
      go_wp2_with fail
      refine HTk.out.mono ?_
      rintro e w1 ⟨rfl, hR1, hB1⟩
      go_wp2_with fail
      refine (HS.out _ hR1).mono ?_
      rintro e w2 ⟨rfl, hR2, hB2⟩
      have hG2 := hG.but hg (hB1.trans hB2)
      go_wp2_with fail
      refine (HA.out _ hG2).mono ?_
      rintro e w3 ⟨⟨n, N, rfl⟩, hB3⟩
      have hR3 := hR2.below hB3
      have hB := (hB1.trans hB2).trans (But.of_below hB3)
      have c1 := hR3.c1
      have f1 := hR3.f1
      have HR := Lib.hid hR3
      clear hR1 hR2 hR3 hB1 hB2 hB3 hG2
      go_wp2
      go_ret
      exact ⟨_, D, rfl, ⟨_, rfl⟩, hDl, HR.out.set1, hB.set _ _⟩
  · have HA := Lib.hid (fun W (hW : Glob W) => atoi_any T W hW hTl hdg (by omega))
    have hno' : bad = true ∨ 15 < (bs T).size := by
      rw [hsz]
      rcases hno with h | h | h
      · exact .inl h
      · exact absurd h h0
      · exact .inr h
    clear hdg hno h0 hsz hTl
    cases bad with
    | true =>
      clear hno'
      cases neg
      all_goals
        go_enter Tryz.func147, Tryz.ntmps147
        go_wp2_with fail
        refine HTk.out.mono ?_
        rintro e w1 ⟨rfl, hR1, hB1⟩
        go_wp2_with fail
        refine (HS.out _ hR1).mono ?_
        rintro e w2 ⟨rfl, hR2, hB2⟩
        have hG2 := hG.but hg (hB1.trans hB2)
        go_wp2_with fail
        refine (HA.out _ hG2).mono ?_
        rintro e w3 ⟨⟨n, ev, rfl, hev⟩, hB3⟩
        have hR3 := hR2.below hB3
        have hB := (hB1.trans hB2).trans (But.of_below hB3)
        have c1 := hR3.c1
        have f1 := hR3.f1
        have HR := Lib.hid hR3
        clear hR1 hR2 hR3 hB1 hB2 hB3 hG2 hev
        go_wp2
        go_ret
        exact ⟨_, D, rfl, ⟨_, rfl⟩, hDl, HR.out.set1, hB.set _ _⟩
    | false =>
      have h15 : 15 < (bs T).size := by rcases hno' with h | h; · cases h
                                        · exact h
      have h15' : (15 : Int) < ((bs T).size : Int) := by omega
      clear hno' h15
      cases neg
      all_goals
        go_enter Tryz.func147, Tryz.ntmps147
        go_wp2_with fail
        refine HTk.out.mono ?_
        rintro e w1 ⟨rfl, hR1, hB1⟩
        go_wp2_with fail
        refine (HS.out _ hR1).mono ?_
        rintro e w2 ⟨rfl, hR2, hB2⟩
        have hG2 := hG.but hg (hB1.trans hB2)
        go_wp2_with fail
        refine (HA.out _ hG2).mono ?_
        rintro e w3 ⟨⟨n, ev, rfl, hev⟩, hB3⟩
        have hR3 := hR2.below hB3
        have hB := (hB1.trans hB2).trans (But.of_below hB3)
        have c1 := hR3.c1
        have f1 := hR3.f1
        have HR := Lib.hid hR3
        clear hR1 hR2 hR3 hB1 hB2 hB3 hG2
        rcases hev with rfl | ⟨N, rfl⟩
        all_goals
          go_wp2
          go_ret
          exact ⟨_, D, rfl, ⟨_, rfl⟩, hDl, HR.out.set1, hB.set _ _⟩
end Go.Proofs.YtelgjeeleofgoaaGreatDoor
