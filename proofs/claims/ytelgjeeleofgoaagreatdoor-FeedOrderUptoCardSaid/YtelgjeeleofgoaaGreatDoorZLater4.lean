/- A part of the proof (see the last text): texts of the session and printed words, put together by a program of the session. -/
import Derived.Test.YtelgjeeleofgoaaGreatDoorZLater3
import Derived.Test.YtelgjeeleofgoaaGreatDoorZLater1
import Derived.Deep.AppendLies
import Derived.Deep.RegionHeld3
import Derived.OwnWalk
import Derived.Deep.RegionLaw
import Derived.Deep.Cut
import Derived.Test.YtelgjeeleofgoaaGreatDoorZLater2
import Derived.Deep.DeepCutAuto
/- The reader of package field: a sign taken or not, exactly; a text between signs. Printed by wip/gen_rd6.py. -/
namespace Go.Proofs.YtelgjeeleofgoaaGreatDoor
open Go.RowKit Go.Proofs.YtelgjeeleofgoaaGreatDoorW.PrintWords
set_option linter.unusedSimpArgs false
set_option linter.unusedVariables false

theorem infoU8 : (Tryz.prog.info? 5).map (fun i => (i.zero, i.size, i.bytes)) = some (some (.int .u8 0), 1, 1) := by kernel_rfl
def ns (l : Bs) : List Int := l.map fun c => (c.toNat : Int)
theorem ns_str (l : Bs) : strOfNums (ns l) = bs l := by
  unfold strOfNums ns bs
  congr 2
  simp [List.map_map, Function.comp_def]
theorem ns_snoc (l : Bs) (c : UInt8) : nums .u8 (ns l) ++ [.int .u8 (c.toNat : Int)] = nums .u8 (ns (l ++ [c])) := by simp [nums, ns]
theorem own_ne {w : World} {base g n : Nat} {e : TypeId} {size : Nat} {v : Value} {xs : List Value} (h : w.ownsRow base e size v n xs) (hg : g < base) : v.ownBlock ≠ some g := by
  rcases h.2 with ⟨rfl, _⟩ | ⟨q, cap, cur, rfl, hq, _⟩
  · simp [Value.ownBlock]
  · simp [Value.ownBlock]; omega
theorem own_ge {w : World} {base n : Nat} {e : TypeId} {size : Nat} {v : Value} {xs : List Value} (h : w.ownsRow base e size v n xs) (k : Nat) (hk : v.ownBlock = some k) : base ≤ k := by
  rcases h.2 with ⟨rfl, _⟩ | ⟨q, cap, cur, rfl, hq, _⟩
  · simp [Value.ownBlock] at hk
  · simp [Value.ownBlock] at hk; omega
theorem Rd.grown {g : Nat} {l : Bs} {bad : Bool} {w w' : World} {row : Option Nat} (h : Rd g l bad w) (hg : w.grownBy w' row) (hne : row ≠ some g) : Rd g l bad w' := ⟨(hg.block g h.lt (Ne.symm hne)).trans h.blk⟩
theorem But.step {g B : Nat} {w w1 w' : World} {row : Option Nat} (h : But g w w1) (hg : w1.grownBy w' row) (hB : w.heap.size ≤ B) (hr : ∀ k, row = some k → B ≤ k) : But g w w' :=
  ⟨hg.os.trans h.os, hg.tape.trans h.tape, hg.output.trans h.output, Nat.le_trans h.size hg.size, fun k hk hkg => (hg.block k (Nat.lt_of_lt_of_le hk h.size) (fun e => by have := hr k e.symm; omega)).trans (h.block k hk hkg)⟩
theorem But.drew {g : Nat} {w w1 : World} (h : But g w w1) : But g w w1.drew := ⟨h.os, h.tape, h.output, h.size, h.block⟩
theorem Rd.drew {g : Nat} {l : Bs} {bad : Bool} {w : World} (h : Rd g l bad w) : Rd g l bad w.drew := ⟨h.blk⟩

set_option maxHeartbeats 1000000 in
theorem take_no (g : Nat) (l : Bs) (bad : Bool) (c : Int) (w : World) (h : Rd g l bad w) (hl : l.length < 4294967281) (hh : hd l c = false) :
    Calls Tryz.prog 61 #[.pointer (some ⟨g, 0, none⟩), .int .u8 c] w fun e w' => e = .returned (.bool false) ∧ w = w' := by
  have c0 := h.c0
  have f0 := h.f0
  clear h
  match l with
  | [] =>
    have k1 : (bs []).toList = [] := bs_toList _
    clear hh
    go_enter Tryz.func61, Tryz.ntmps61
    go_wp2
    go_ret
    exact ⟨rfl, rfl⟩
  | d :: r =>
    have k1 : (bs (d :: r)).toList = d :: r := bs_toList _
    have k2 : 0 < (bs (d :: r)).size := by rw [bs_size]; simp
    have k3 := bs_head d r k2
    have kc : ((d.toNat : Int) != c) = true := by
      have : ((d.toNat : Int) == c) = false := hh
      rw [bne_iff_ne]; intro e; rw [e] at this; simp at this
    clear hh
    go_enter Tryz.func61, Tryz.ntmps61
    go_wp2
    go_ret
    exact ⟨rfl, rfl⟩
set_option maxHeartbeats 1000000 in
theorem take_yes (g : Nat) (d : UInt8) (r : Bs) (bad : Bool) (c : Int) (w : World) (h : Rd g (d :: r) bad w) (hl : r.length < 4294967280) (hc : (d.toNat : Int) = c) :
    Calls Tryz.prog 61 #[.pointer (some ⟨g, 0, none⟩), .int .u8 c] w fun e w' => e = .returned (.bool true) ∧ w.setCell ⟨g, 0, none⟩ (.string (bs r)) = w' := by
  have c0 := h.c0
  have f0 := h.f0
  clear h
  have k1 : (bs (d :: r)).toList = d :: r := bs_toList _
  have k2 : 0 < (bs (d :: r)).size := by rw [bs_size]; simp
  have k4 : (1 : Int) ≤ ((bs (d :: r)).size : Int) := by omega
  have k3 := bs_head d r k2
  have kc : ((d.toNat : Int) != c) = false := by simpa using hc
  have he : (bs (d :: r)).extract 1 (bs (d :: r)).size = bs r := by rw [bs_ext, bs_size]; simp
  rw [← he]
  clear hc he
  go_enter Tryz.func61, Tryz.ntmps61
  go_wp2
  go_ret
  exact ⟨rfl, rfl⟩

/-- What a text between signs leaves. -/
def QPost (g n : Nat) (P : Option (Bs × Bs)) (w : World) (e : Ending) (w' : World) : Prop :=
  match P with
  | some (k, r) => e = .returned (.string (bs k)) ∧ Rd g r false w' ∧ But g w w'
  | none => Gone g n IsStr w e w'
/-- What holds at the head of a round. -/
def QRel (g : Nat) (l : Bs) (P : Option (Bs × Bs)) (w : World) (f : Nat) (v : Value) (wr : World) : Prop :=
  ∃ (l' acc : Bs) (bad : Bool), Rd g l' bad wr ∧ wr.ownsRow w.heap.size 5 1 v acc.length (nums .u8 (ns acc)) ∧ But g w wr ∧ acc.length + l'.length ≤ l.length ∧
    (bad = true → P = none) ∧ (bad = false → l'.length < f ∧ FM.pQuoted f acc l' = P)

set_option maxHeartbeats 16000000 in
set_option maxRecDepth 100000 in
theorem quoted_any (g : Nat) (l : Bs) (bad : Bool) (P : Option (Bs × Bs)) (w : World) (h : Rd g l bad w) (hl : l.length < 4294967280) (hb : bad = true → P = none) (hP : bad = false → FM.pQuoted (l.length + 1) [] l = P) :
    Calls Tryz.prog 92 #[.pointer (some ⟨g, 0, none⟩)] w (QPost g l.length P w) := by
  obtain ⟨i0, hi, hz0, hz1, hz2⟩ := info_parts infoU8
  have hstart : QRel g l P w (l.length + 1) (.slice none 0 0) w := ⟨l, [], bad, h, World.ownsRow_nil _ _ _ _, But.refl _ _, by simp, hb, fun e => ⟨by omega, hP e⟩⟩
  have hg := h.lt
  have HST := Lib.hid hstart
  clear hstart h hb hP
  go_enter Tryz.func92, Tryz.ntmps92
  go_wp2_with fail
  go_loopg [3] (l.length + 1) (fun f v wr => QRel g l P w f v wr)
  case atStart => exact HST.out
  case round =>
    clear HST
    obtain ⟨l', acc, bad', hR, hO, hB, hlen, hb, hP⟩ := hrel
    cases bad' with
    | true =>
      have hPn := hb rfl
      subst hPn
      clear hb hP
      have c1 := hR.c1
      have HR := Lib.hid hR
      clear hR hO
      go_wp2_with fail
      go_ret
      exact ⟨_, l', rfl, ⟨[], rfl⟩, by omega, HR.out, hB⟩
    | false =>
      obtain ⟨hlt, hP'⟩ := hP rfl
      clear hb hP
      have hP := hP'
      clear hP'
      cases gk with
      | zero => omega
      | succ f =>
        simp only [FM.pQuoted] at hP
        have HB := Lib.hid hB
        have HO := Lib.hid hO
        have HR := Lib.hid hR
        have c1 := hR.c1
        clear hR hO hB
        match l', hP with
        | [], hP =>
          simp only at hP
          subst hP
          have k1 : (bs []).toList = [] := bs_toList _
          have f1 := HR.out.f1
          have c0 := HR.out.c0
          go_wp2_with fail
          refine (take_no g [] false 34 _ HR.out (by simp) rfl).mono ?_
          rintro e w' ⟨rfl, rfl⟩
          go_wp2_with fail
          refine (take_no g [] false 92 _ HR.out (by simp) rfl).mono ?_
          rintro e w' ⟨rfl, rfl⟩
          go_wp2_with fail
          go_roundg f
          case measure => omega
          case rel => exact ⟨[], acc, true, HR.out.set1, ownsRow_setCell_below HO.out hg _, HB.out.set _ _, hlen, fun _ => rfl, fun e => by cases e⟩
        | c :: r, hP =>
          simp only at hP
          have kT : (bs (c :: r)).toList = c :: r := bs_toList _
          have kP : 0 < (bs (c :: r)).size := by rw [bs_size]; simp
          have kH := bs_head c r kP
          have f1 := HR.out.f1
          have c0 := HR.out.c0
          have f0 := HR.out.f0
          by_cases h34 : c.toNat = 34
          · simp only [h34, if_true] at hP
            subst hP
            go_wp2_with fail
            refine (take_yes g c r false 34 _ HR.out (by simp at hlen; omega) (by rw [h34]; rfl)).mono ?_
            rintro e w' ⟨rfl, rfl⟩
            have hO2 := ownsRow_setCell_below HO.out (a := ⟨g, 0, none⟩) hg (.string (bs r))
            have hcv := own_string (P := Tryz.prog) Tryz.underlying33 Tryz.underlying5 Tryz.underlying9 hO2
            go_wp2_with fail
            go_ret
            exact ⟨by rw [ns_str]; rfl, HR.out.set0, HB.out.set _ _⟩
          by_cases h92 : c.toNat = 92
          · rw [if_neg h34, if_pos h92] at hP
            have hn34 : hd (c :: r) 34 = false := by simp [hd]; omega
            have hlt2 := hlt
            go_wp2_with fail
            refine (take_no g _ false 34 _ HR.out (by simp at hlen ⊢; omega) hn34).mono ?_
            rintro e w' ⟨rfl, rfl⟩
            go_wp2_with fail
            refine (take_yes g c r false 92 _ HR.out (by simp at hlen; omega) (by rw [h92]; rfl)).mono ?_
            rintro e w' ⟨rfl, rfl⟩
            have hR2 : Rd g r false (wr.setCell ⟨g, 0, none⟩ (.string (bs r))) := HR.out.set0
            have hO2 := ownsRow_setCell_below HO.out (a := ⟨g, 0, none⟩) hg (.string (bs r))
            have hB2 := HB.out.set 0 (.string (bs r))
            clear c0 c1 f0 f1 HR HO HB hn34 kP kH kT
            generalize wr.setCell ⟨g, 0, none⟩ (.string (bs r)) = W2 at *
            have c0 := hR2.c0
            have f0 := hR2.f0
            have c1 := hR2.c1
            have f1 := hR2.f1
            have HR := Lib.hid hR2
            have HO := Lib.hid hO2
            have HB := Lib.hid hB2
            clear hR2 hO2 hB2
            match r, hP with
            | [], hP =>
              simp only at hP
              subst hP
              have k1 : (bs []).toList = [] := bs_toList _
              go_wp2_with fail
              go_roundg f
              case measure => omega
              case rel => exact ⟨[], acc, true, HR.out.set1, ownsRow_setCell_below HO.out (a := ⟨g, 1, none⟩) hg _, HB.out.set _ _, by simp at hlen ⊢; omega, fun _ => rfl, fun e => by cases e⟩
            | d :: r', hP =>
              simp only at hP
              have kT : (bs (d :: r')).toList = d :: r' := bs_toList _
              have kP : 0 < (bs (d :: r')).size := by rw [bs_size]; simp
              have kH := bs_head d r' kP
              by_cases d34 : d.toNat = 34
              · rw [if_pos (.inl d34)] at hP
                have t1 : ((d.toNat : Int) != 34) = false := by rw [d34]; rfl
                clear d34 h92
                go_upto_region 8 with (fail)
                have hR1 : Rd g (d :: r') false (W2.setCell ⟨g, 1, none⟩ (.bool false)) := HR.out.set1
                have hO1 := ownsRow_setCell_below HO.out (a := ⟨g, 1, none⟩) hg (.bool false)
                have hB1 := HB.out.set 1 (.bool false)
                clear c0 c1 f0 f1 HR HO HB t1 kP kH
                generalize W2.setCell ⟨g, 1, none⟩ (.bool false) = W1 at *
                have c0 := hR1.c0
                have f0 := hR1.f0
                have c1 := hR1.c1
                have HR := Lib.hid hR1
                have HO := Lib.hid hO1
                have HB := Lib.hid hB1
                have hsz := hB1.size
                have kP : 0 < (bs (d :: r')).size := by rw [bs_size]; simp
                have kH := bs_head d r' kP
                have k4 : (1 : Int) ≤ ((bs (d :: r')).size : Int) := by omega
                have he : (bs (d :: r')).extract 1 (bs (d :: r')).size = bs r' := by rw [bs_ext, bs_size]; simp
                have hl63 : acc.length + 1 ≤ maxLen := by unfold maxLen; simp at hlen; omega
                have hl47 : (acc.length + 1) * 1 ≤ 140737488355328 := by simp at hlen; omega
                have hne := own_ne HO.out hg
                have c0a := (HR.out.alloc (.cells #[.int .u8 (d.toNat : Int)] 5)).c0
                have f0a := (HR.out.alloc (.cells #[.int .u8 (d.toNat : Int)] 5)).f0
                clear hR1 hO1 hB1
                go_wp2_with fail
                go_region_law (refine step_append_lies _ (by rfl) _ _ _ (by rfl) w.heap.size 5 i0 _ 1 1 Tryz.underlying33 hi hz0 hz1 hz2 rfl (by omega) u3 acc.length (nums .u8 (ns acc)) (by rfl) ((HO.out.alloc _).drew) ⟨W1.heap.size, 0, none⟩ 1 1 [.int .u8 (d.toNat : Int)] (by rfl) (by rfl) (World.news_of_block (cs := #[.int .u8 (d.toNat : Int)]) (t := 5) (fr := (0, 0)) (heap_alloc_new W1 _)) (by simp [Value.oneCell']) (by omega) hl63 hl47 (by simp; omega) (W1.heap.size + 1) (by simp) ?_; intro gg cap w1 hown1 hgrow hat hlt; have hR1 := ((HR.out.alloc (.cells #[.int .u8 (d.toNat : Int)] 5)).drew).grown hgrow hne; have d0 := hR1.c0; have e0 := hR1.f0; have HR1 := Lib.hid hR1; clear hR1)
                all_goals
                  rw [ns_snoc] at hown1
                  have HO1 := Lib.hid hown1
                  have HB1 := Lib.hid (((HB.out.alloc (.cells #[.int .u8 (d.toNat : Int)] 5)).drew).step hgrow (Nat.le_refl _) (own_ge HO.out))
                  clear hown1 hgrow hat c0 f0 c0a f0a d0 e0
                  go_wp2_with fail
                  go_roundg f
                  case measure => omega
                  case rel => exact ⟨r', acc ++ [d], false, HR1.out.set0, by rw [List.length_append]; exact ownsRow_setCell_below HO1.out (a := ⟨g, 0, none⟩) hg _, HB1.out.set _ _, by simp at hlen ⊢; omega, (fun e => by cases e), fun _ => ⟨by simp at hlt2; omega, hP⟩⟩
              by_cases d92 : d.toNat = 92
              · rw [if_pos (.inr d92)] at hP
                have t1 : ((d.toNat : Int) != 34) = true := by rw [d92]; rfl
                have t2 : ((d.toNat : Int) != 92) = false := by rw [d92]; rfl
                clear d92 h92 d34
                go_upto_region 8 with (fail)
                have hR1 : Rd g (d :: r') false (W2.setCell ⟨g, 1, none⟩ (.bool false)) := HR.out.set1
                have hO1 := ownsRow_setCell_below HO.out (a := ⟨g, 1, none⟩) hg (.bool false)
                have hB1 := HB.out.set 1 (.bool false)
                clear c0 c1 f0 f1 HR HO HB t1 t2 kP kH
                generalize W2.setCell ⟨g, 1, none⟩ (.bool false) = W1 at *
                have c0 := hR1.c0
                have f0 := hR1.f0
                have c1 := hR1.c1
                have HR := Lib.hid hR1
                have HO := Lib.hid hO1
                have HB := Lib.hid hB1
                have hsz := hB1.size
                have kP : 0 < (bs (d :: r')).size := by rw [bs_size]; simp
                have kH := bs_head d r' kP
                have k4 : (1 : Int) ≤ ((bs (d :: r')).size : Int) := by omega
                have he : (bs (d :: r')).extract 1 (bs (d :: r')).size = bs r' := by rw [bs_ext, bs_size]; simp
                have hl63 : acc.length + 1 ≤ maxLen := by unfold maxLen; simp at hlen; omega
                have hl47 : (acc.length + 1) * 1 ≤ 140737488355328 := by simp at hlen; omega
                have hne := own_ne HO.out hg
                have c0a := (HR.out.alloc (.cells #[.int .u8 (d.toNat : Int)] 5)).c0
                have f0a := (HR.out.alloc (.cells #[.int .u8 (d.toNat : Int)] 5)).f0
                clear hR1 hO1 hB1
                go_wp2_with fail
                go_region_law (refine step_append_lies _ (by rfl) _ _ _ (by rfl) w.heap.size 5 i0 _ 1 1 Tryz.underlying33 hi hz0 hz1 hz2 rfl (by omega) u3 acc.length (nums .u8 (ns acc)) (by rfl) ((HO.out.alloc _).drew) ⟨W1.heap.size, 0, none⟩ 1 1 [.int .u8 (d.toNat : Int)] (by rfl) (by rfl) (World.news_of_block (cs := #[.int .u8 (d.toNat : Int)]) (t := 5) (fr := (0, 0)) (heap_alloc_new W1 _)) (by simp [Value.oneCell']) (by omega) hl63 hl47 (by simp; omega) (W1.heap.size + 1) (by simp) ?_; intro gg cap w1 hown1 hgrow hat hlt; have hR1 := ((HR.out.alloc (.cells #[.int .u8 (d.toNat : Int)] 5)).drew).grown hgrow hne; have d0 := hR1.c0; have e0 := hR1.f0; have HR1 := Lib.hid hR1; clear hR1)
                all_goals
                  rw [ns_snoc] at hown1
                  have HO1 := Lib.hid hown1
                  have HB1 := Lib.hid (((HB.out.alloc (.cells #[.int .u8 (d.toNat : Int)] 5)).drew).step hgrow (Nat.le_refl _) (own_ge HO.out))
                  clear hown1 hgrow hat c0 f0 c0a f0a d0 e0
                  go_wp2_with fail
                  go_roundg f
                  case measure => omega
                  case rel => exact ⟨r', acc ++ [d], false, HR1.out.set0, by rw [List.length_append]; exact ownsRow_setCell_below HO1.out (a := ⟨g, 0, none⟩) hg _, HB1.out.set _ _, by simp at hlen ⊢; omega, (fun e => by cases e), fun _ => ⟨by simp at hlt2; omega, hP⟩⟩
              rw [if_neg (by omega)] at hP
              subst hP
              have t1 : ((d.toNat : Int) != 34) = true := by rw [bne_iff_ne]; omega
              have t2 : ((d.toNat : Int) != 92) = true := by rw [bne_iff_ne]; omega
              go_wp2_with fail
              go_roundg f
              case measure => omega
              case rel => exact ⟨d :: r', acc, true, HR.out.set1, ownsRow_setCell_below HO.out (a := ⟨g, 1, none⟩) hg _, HB.out.set _ _, by simp at hlen ⊢; omega, fun _ => rfl, fun e => by cases e⟩
          rw [if_neg h34, if_neg h92] at hP
          have hn34 : hd (c :: r) 34 = false := by simp [hd]; omega
          have hn92 : hd (c :: r) 92 = false := by simp [hd]; omega
          by_cases hlo : c.toNat < 32
          · rw [if_pos (.inl hlo)] at hP
            subst hP
            have t1 : ((c.toNat : Nat) : Int) < 32 := by omega
            go_wp2_with fail
            refine (take_no g _ false 34 _ HR.out (by simp at hlen ⊢; omega) hn34).mono ?_
            rintro e w' ⟨rfl, rfl⟩
            go_wp2_with fail
            refine (take_no g _ false 92 _ HR.out (by simp at hlen ⊢; omega) hn92).mono ?_
            rintro e w' ⟨rfl, rfl⟩
            go_wp2_with fail
            go_roundg f
            case measure => omega
            case rel => exact ⟨c :: r, acc, true, HR.out.set1, ownsRow_setCell_below HO.out hg _, HB.out.set _ _, hlen, fun _ => rfl, fun e => by cases e⟩
          by_cases hhi : 126 < c.toNat
          · rw [if_pos (.inr hhi)] at hP
            subst hP
            have t1 : ¬ ((c.toNat : Nat) : Int) < 32 := by omega
            have t2 : (126 : Int) < ((c.toNat : Nat) : Int) := by omega
            go_wp2_with fail
            refine (take_no g _ false 34 _ HR.out (by simp at hlen ⊢; omega) hn34).mono ?_
            rintro e w' ⟨rfl, rfl⟩
            go_wp2_with fail
            refine (take_no g _ false 92 _ HR.out (by simp at hlen ⊢; omega) hn92).mono ?_
            rintro e w' ⟨rfl, rfl⟩
            go_wp2_with fail
            go_roundg f
            case measure => omega
            case rel => exact ⟨c :: r, acc, true, HR.out.set1, ownsRow_setCell_below HO.out hg _, HB.out.set _ _, hlen, fun _ => rfl, fun e => by cases e⟩
          rw [if_neg (by omega)] at hP
          have hlt2 := hlt
          have t1 : decide (((c.toNat : Nat) : Int) < 32) = false := by simp; omega
          have t2 : decide ((126 : Int) < ((c.toNat : Nat) : Int)) = false := by simp; omega
          go_wp2_with fail
          refine (take_no g _ false 34 _ HR.out (by simp at hlen ⊢; omega) hn34).mono ?_
          rintro e w' ⟨rfl, rfl⟩
          go_wp2_with fail
          refine (take_no g _ false 92 _ HR.out (by simp at hlen ⊢; omega) hn92).mono ?_
          rintro e w' ⟨rfl, rfl⟩
          go_upto_region 8 with (fail)
          have hR1 : Rd g (c :: r) false (wr.setCell ⟨g, 1, none⟩ (.bool false)) := HR.out.set1
          have hO1 := ownsRow_setCell_below HO.out (a := ⟨g, 1, none⟩) hg (.bool false)
          have hB1 := HB.out.set 1 (.bool false)
          clear c0 c1 f0 f1 HR HO HB t1 t2 hn34 hn92 kP kH
          generalize wr.setCell ⟨g, 1, none⟩ (.bool false) = W1 at *
          have c0 := hR1.c0
          have f0 := hR1.f0
          have c1 := hR1.c1
          have HR := Lib.hid hR1
          have HO := Lib.hid hO1
          have HB := Lib.hid hB1
          have hsz := hB1.size
          have kP : 0 < (bs (c :: r)).size := by rw [bs_size]; simp
          have kH := bs_head c r kP
          have k4 : (1 : Int) ≤ ((bs (c :: r)).size : Int) := by omega
          have he : (bs (c :: r)).extract 1 (bs (c :: r)).size = bs r := by rw [bs_ext, bs_size]; simp
          have hl63 : acc.length + 1 ≤ maxLen := by unfold maxLen; simp at hlen; omega
          have hl47 : (acc.length + 1) * 1 ≤ 140737488355328 := by simp at hlen; omega
          have hne := own_ne HO.out hg
          have c0a := (HR.out.alloc (.cells #[.int .u8 (c.toNat : Int)] 5)).c0
          have f0a := (HR.out.alloc (.cells #[.int .u8 (c.toNat : Int)] 5)).f0
          clear hR1 hO1 hB1
          go_wp2_with fail
          go_region_law (refine step_append_lies _ (by rfl) _ _ _ (by rfl) w.heap.size 5 i0 _ 1 1 Tryz.underlying33 hi hz0 hz1 hz2 rfl (by omega) u3 acc.length (nums .u8 (ns acc)) (by rfl) ((HO.out.alloc _).drew) ⟨W1.heap.size, 0, none⟩ 1 1 [.int .u8 (c.toNat : Int)] (by rfl) (by rfl) (World.news_of_block (cs := #[.int .u8 (c.toNat : Int)]) (t := 5) (fr := (0, 0)) (heap_alloc_new W1 _)) (by simp [Value.oneCell']) (by omega) hl63 hl47 (by simp; omega) (W1.heap.size + 1) (by simp) ?_; intro gg cap w1 hown1 hgrow hat hlt; have hR1 := ((HR.out.alloc (.cells #[.int .u8 (c.toNat : Int)] 5)).drew).grown hgrow hne; have d0 := hR1.c0; have e0 := hR1.f0; have HR1 := Lib.hid hR1; clear hR1)
          all_goals
            rw [ns_snoc] at hown1
            have HO1 := Lib.hid hown1
            have HB1 := Lib.hid (((HB.out.alloc (.cells #[.int .u8 (c.toNat : Int)] 5)).drew).step hgrow (Nat.le_refl _) (own_ge HO.out))
            clear hown1 hgrow hat c0 f0 c0a f0a d0 e0
            go_wp2_with fail
            go_roundg f
            case measure => omega
            case rel => exact ⟨r, acc ++ [c], false, HR1.out.set0, by rw [List.length_append]; exact ownsRow_setCell_below HO1.out (a := ⟨g, 0, none⟩) hg _, HB1.out.set _ _, by simp at hlen ⊢; omega, (fun e => by cases e), fun _ => ⟨by simp at hlt2; omega, hP⟩⟩
end Go.Proofs.YtelgjeeleofgoaaGreatDoor

/- The reader of package field: any value, told. Printed by wip/gen_rd7.py. -/
namespace Go.Proofs.YtelgjeeleofgoaaGreatDoor
open Go.RowKit
set_option linter.unusedSimpArgs false
set_option linter.unusedVariables false

/-- A value told. -/
abbrev valV (v : FM.V) : Value := .agg #[.int .i64 v.k, .int .i64 v.n, .string (bs v.s)]

set_option maxHeartbeats 2000000 in
theorem told_int (n : Int) (w : World) : Calls Tryz.prog 93 #[.iface 3 (.int .i64 n)] w fun e w' => e = .returned (valV ⟨1, n, []⟩) ∧ Below w.heap.size w w' := by
  have a0 : ∀ (v : Value) (W : World), (Instr.typeAssert (.iface 3 v) 20 3 true).run Tryz.prog W = .ok (.tuple #[v, .bool true]) W := fun v W => by kernel_rfl
  go_enter Tryz.func93, Tryz.ntmps93
  go_wp2
  refine bodyPost_ret (v := valV ⟨1, n, []⟩) ?_ rfl ⟨rfl, ?_⟩
  · simp [results, Tryz.results93, go_sem, bs]
  · first | exact (Below.refl _ _).alloc (Nat.le_refl _) _ | exact ((Below.refl _ _).alloc (Nat.le_refl _) _).alloc (by simp) _

set_option maxHeartbeats 2000000 in
theorem told_text (s : Bs) (w : World) : Calls Tryz.prog 93 #[.iface 9 (.string (bs s))] w fun e w' => e = .returned (valV ⟨2, 0, s⟩) ∧ Below w.heap.size w w' := by
  have a0 : ∀ (v : Value) (W : World), (Instr.typeAssert (.iface 9 v) 20 3 true).run Tryz.prog W = .ok (.tuple #[.int .i64 0, .bool false]) W := fun v W => by kernel_rfl
  have a1 : ∀ (v : Value) (W : World), (Instr.typeAssert (.iface 9 v) 20 9 true).run Tryz.prog W = .ok (.tuple #[v, .bool true]) W := fun v W => by kernel_rfl
  go_enter Tryz.func93, Tryz.ntmps93
  go_wp2
  refine bodyPost_ret (v := valV ⟨2, 0, s⟩) ?_ rfl ⟨rfl, ?_⟩
  · simp [results, Tryz.results93, go_sem, bs]
  · first | exact (Below.refl _ _).alloc (Nat.le_refl _) _ | exact ((Below.refl _ _).alloc (Nat.le_refl _) _).alloc (by simp) _

set_option maxHeartbeats 2000000 in
theorem told_word (s : Bs) (w : World) : Calls Tryz.prog 93 #[.iface 131 (.string (bs s))] w fun e w' => e = .returned (valV ⟨3, 0, s⟩) ∧ Below w.heap.size w w' := by
  have a0 : ∀ (v : Value) (W : World), (Instr.typeAssert (.iface 131 v) 20 3 true).run Tryz.prog W = .ok (.tuple #[.int .i64 0, .bool false]) W := fun v W => by kernel_rfl
  have a1 : ∀ (v : Value) (W : World), (Instr.typeAssert (.iface 131 v) 20 9 true).run Tryz.prog W = .ok (.tuple #[.string ⟨#[]⟩, .bool false]) W := fun v W => by kernel_rfl
  have a2 : ∀ (v : Value) (W : World), (Instr.typeAssert (.iface 131 v) 20 131 true).run Tryz.prog W = .ok (.tuple #[v, .bool true]) W := fun v W => by kernel_rfl
  go_enter Tryz.func93, Tryz.ntmps93
  go_wp2
  refine bodyPost_ret (v := valV ⟨3, 0, s⟩) ?_ rfl ⟨rfl, ?_⟩
  · simp [results, Tryz.results93, go_sem, bs]
  · first | exact (Below.refl _ _).alloc (Nat.le_refl _) _ | exact ((Below.refl _ _).alloc (Nat.le_refl _) _).alloc (by simp) _

set_option maxHeartbeats 2000000 in
theorem told_flag1  (w : World) : Calls Tryz.prog 93 #[.iface 4 (.bool true)] w fun e w' => e = .returned (valV ⟨4, 1, []⟩) ∧ Below w.heap.size w w' := by
  have a0 : ∀ (v : Value) (W : World), (Instr.typeAssert (.iface 4 v) 20 3 true).run Tryz.prog W = .ok (.tuple #[.int .i64 0, .bool false]) W := fun v W => by kernel_rfl
  have a1 : ∀ (v : Value) (W : World), (Instr.typeAssert (.iface 4 v) 20 9 true).run Tryz.prog W = .ok (.tuple #[.string ⟨#[]⟩, .bool false]) W := fun v W => by kernel_rfl
  have a2 : ∀ (v : Value) (W : World), (Instr.typeAssert (.iface 4 v) 20 131 true).run Tryz.prog W = .ok (.tuple #[.string ⟨#[]⟩, .bool false]) W := fun v W => by kernel_rfl
  have a3 : ∀ (v : Value) (W : World), (Instr.typeAssert (.iface 4 v) 20 4 false).run Tryz.prog W = .ok v W := fun v W => by kernel_rfl
  go_enter Tryz.func93, Tryz.ntmps93
  go_wp2
  refine bodyPost_ret (v := valV ⟨4, 1, []⟩) ?_ rfl ⟨rfl, ?_⟩
  · simp [results, Tryz.results93, go_sem, bs]
  · first | exact (Below.refl _ _).alloc (Nat.le_refl _) _ | exact ((Below.refl _ _).alloc (Nat.le_refl _) _).alloc (by simp) _

set_option maxHeartbeats 2000000 in
theorem told_flag0  (w : World) : Calls Tryz.prog 93 #[.iface 4 (.bool false)] w fun e w' => e = .returned (valV ⟨4, 0, []⟩) ∧ Below w.heap.size w w' := by
  have a0 : ∀ (v : Value) (W : World), (Instr.typeAssert (.iface 4 v) 20 3 true).run Tryz.prog W = .ok (.tuple #[.int .i64 0, .bool false]) W := fun v W => by kernel_rfl
  have a1 : ∀ (v : Value) (W : World), (Instr.typeAssert (.iface 4 v) 20 9 true).run Tryz.prog W = .ok (.tuple #[.string ⟨#[]⟩, .bool false]) W := fun v W => by kernel_rfl
  have a2 : ∀ (v : Value) (W : World), (Instr.typeAssert (.iface 4 v) 20 131 true).run Tryz.prog W = .ok (.tuple #[.string ⟨#[]⟩, .bool false]) W := fun v W => by kernel_rfl
  have a3 : ∀ (v : Value) (W : World), (Instr.typeAssert (.iface 4 v) 20 4 false).run Tryz.prog W = .ok v W := fun v W => by kernel_rfl
  go_enter Tryz.func93, Tryz.ntmps93
  go_wp2
  refine bodyPost_ret (v := valV ⟨4, 0, []⟩) ?_ rfl ⟨rfl, ?_⟩
  · simp [results, Tryz.results93, go_sem, bs]
  · first | exact (Below.refl _ _).alloc (Nat.le_refl _) _ | exact ((Below.refl _ _).alloc (Nat.le_refl _) _).alloc (by simp) _

/-- x holds the value v, by its kind. -/
def ToldAs (x : Value) (v : FM.V) : Prop :=
  (∃ n : Int, x = .iface 3 (.int .i64 n) ∧ v = ⟨1, n, []⟩) ∨ (∃ s : Bs, x = .iface 9 (.string (bs s)) ∧ v = ⟨2, 0, s⟩) ∨
  (∃ s : Bs, x = .iface 131 (.string (bs s)) ∧ v = ⟨3, 0, s⟩) ∨ (x = .iface 4 (.bool true) ∧ v = ⟨4, 1, []⟩) ∨ (x = .iface 4 (.bool false) ∧ v = ⟨4, 0, []⟩)
theorem told_any {x : Value} {v : FM.V} (h : ToldAs x v) (w : World) : Calls Tryz.prog 93 #[x] w fun e w' => e = .returned (valV v) ∧ Below w.heap.size w w' := by
  rcases h with ⟨n, rfl, rfl⟩ | ⟨s, rfl, rfl⟩ | ⟨s, rfl, rfl⟩ | ⟨rfl, rfl⟩ | ⟨rfl, rfl⟩
  · exact told_int n w
  · exact told_text s w
  · exact told_word s w
  · exact told_flag1 w
  · exact told_flag0 w
def IsAny (x : Value) : Prop := ∃ v, ToldAs x v
end Go.Proofs.YtelgjeeleofgoaaGreatDoor

/- The reader of package field: any value. Printed by wip/gen_rd8.py. -/
namespace Go.Proofs.YtelgjeeleofgoaaGreatDoor
open Go.RowKit
set_option linter.unusedSimpArgs false
set_option linter.unusedVariables false

/-- What a value leaves. -/
def VPost (g n : Nat) (P : Option (FM.V × Bs)) (w : World) (e : Ending) (w' : World) : Prop :=
  match P with
  | some (v, r) => ∃ x, e = .returned x ∧ ToldAs x v ∧ Rd g r false w' ∧ But g w w'
  | none => Gone g n IsAny w e w'
theorem VPost.gone {g n : Nat} {w w' : World} {x : Value} {r : Bs} (hx : IsAny x) (hr : r.length ≤ n) (h : Rd g r true w') (hb : But g w w') : VPost g n none w (.returned x) w' := ⟨x, r, rfl, hx, hr, h, hb⟩
theorem any_false : IsAny (.iface 4 (.bool false)) := ⟨_, .inr (.inr (.inr (.inr ⟨rfl, rfl⟩)))⟩
theorem any_true : IsAny (.iface 4 (.bool true)) := ⟨_, .inr (.inr (.inr (.inl ⟨rfl, rfl⟩)))⟩
theorem any_text (s : Bs) : IsAny (.iface 9 (.string (bs s))) := ⟨_, .inr (.inl ⟨s, rfl, rfl⟩)⟩
theorem any_word (s : Bs) : IsAny (.iface 131 (.string (bs s))) := ⟨_, .inr (.inr (.inl ⟨s, rfl, rfl⟩))⟩
theorem any_int (n : Int) : IsAny (.iface 3 (.int .i64 n)) := ⟨_, .inl ⟨n, rfl, rfl⟩⟩

set_option maxHeartbeats 16000000 in
set_option maxRecDepth 100000 in
theorem value_nil (g : Nat) (bad : Bool) (P : Option (FM.V × Bs)) (w : World) (h : Rd g (([] : Bs)) bad w) (hG : Glob w) (hg : GlobLt g) (hl : (([] : Bs)).length < 4294967280) (hb : bad = true → P = none) (hP : bad = false → FM.pValue (([] : Bs)) = P) :
    Calls Tryz.prog 126 #[.pointer (some ⟨g, 0, none⟩)] w (VPost g (([] : Bs)).length P w) := by
  have HR := Lib.hid h
  clear h
  have hPn : P = none := by cases bad; exact (hP rfl).symm; exact hb rfl
  subst hPn
  clear hb hP
  have k1 : (bs []).toList = [] := bs_toList _
  have hn34 : hd [] 34 = false := rfl
  have hn63 : hd [] 63 = false := rfl
  have c0 := HR.out.c0
  have c1 := HR.out.c1
  have f0 := HR.out.f0
  have f1 := HR.out.f1
  go_enter Tryz.func126, Tryz.ntmps126
  go_wp2_with fail
  refine (take_no g _ _ 34 _ HR.out (by first | omega | (simp only [List.length_cons, List.length_nil] at * <;> omega)) hn34).mono ?_
  rintro e w' ⟨rfl, rfl⟩
  go_wp2_with fail
  refine (take_no g _ _ 63 _ HR.out (by first | omega | (simp only [List.length_cons, List.length_nil] at * <;> omega)) hn63).mono ?_
  rintro e w' ⟨rfl, rfl⟩
  go_wp2
  go_ret
  exact VPost.gone any_false (Nat.le_refl _) HR.out.set1 ((But.refl _ _).set _ _)

set_option maxHeartbeats 16000000 in
set_option maxRecDepth 100000 in
theorem value_text (g : Nat) (c : UInt8) (r : Bs) (bad : Bool) (P : Option (FM.V × Bs)) (w : World) (h : Rd g (c :: r) bad w) (hG : Glob w) (hg : GlobLt g) (hl : (c :: r).length < 4294967280) (hc : c.toNat = 34) (hb : bad = true → P = none) (hP : bad = false → FM.pValue (c :: r) = P) :
    Calls Tryz.prog 126 #[.pointer (some ⟨g, 0, none⟩)] w (VPost g (c :: r).length P w) := by
  have HR := Lib.hid h
  clear h
  obtain ⟨Q, hQ⟩ : ∃ Q, (if bad then none else FM.pQuoted (r.length + 1) [] r) = Q := ⟨_, rfl⟩
  have hPQ : P = Q.map fun x => ((⟨2, 0, x.1⟩ : FM.V), x.2) := by
    cases bad with
    | true => rw [hb rfl, ← hQ]; rfl
    | false =>
      rw [← hP rfl, ← hQ]
      simp [FM.pValue, hc]
  subst hPQ
  have HQ := Lib.hid (fun W (hW : Rd g r bad W) => quoted_any g r bad Q W hW (by first | omega | (simp only [List.length_cons, List.length_nil] at * <;> omega)) (fun e => by subst e; exact hQ.symm) (fun e => by subst e; exact hQ))
  clear hb hP hQ
  have hy34 : (c.toNat : Int) = 34 := by omega
  have HY := Lib.hid hy34
  clear hy34 hc
  have kT : (bs (c :: r)).toList = c :: r := bs_toList _
  have kP : 0 < (bs (c :: r)).size := by rw [bs_size]; simp
  have kH := bs_head c r kP
  have c0 := HR.out.c0
  have c1 := HR.out.c1
  have f0 := HR.out.f0
  have f1 := HR.out.f1
  go_enter Tryz.func126, Tryz.ntmps126
  go_wp2_with fail
  refine (take_yes g c r _ 34 _ HR.out (by first | omega | (simp only [List.length_cons, List.length_nil] at * <;> omega)) HY.out).mono ?_
  rintro e w' ⟨rfl, rfl⟩
  have hR2 : Rd g r bad (w.setCell ⟨g, 0, none⟩ (.string (bs r))) := HR.out.set0
  have hB2 := (But.refl g w).set 0 (.string (bs r))
  clear c0 c1 f0 f1 HR
  obtain ⟨W2, hW2⟩ : ∃ W2, w.setCell ⟨g, 0, none⟩ (.string (bs r)) = W2 := ⟨_, rfl⟩
  rw [hW2] at hR2 hB2 ⊢
  clear hW2
  have HR := Lib.hid hR2
  have HB := Lib.hid hB2
  clear hR2 hB2
  have c0 := HR.out.c0
  have c1 := HR.out.c1
  have f0 := HR.out.f0
  have f1 := HR.out.f1
  go_wp2_with fail
  refine (HQ.out _ HR.out).mono ?_
  intro e w3 hq
  cases Q with
  | some q =>
    obtain ⟨k, r'⟩ := q
    obtain ⟨rfl, hR3, hB3⟩ := hq
    go_wp2_with fail
    go_ret
    exact ⟨_, rfl, .inr (.inl ⟨k, rfl, rfl⟩), hR3, HB.out.trans hB3⟩
  | none =>
    obtain ⟨v, r', rfl, ⟨k, rfl⟩, hr', hR3, hB3⟩ := hq
    go_wp2_with fail
    go_ret
    exact VPost.gone (any_text k) (by first | omega | (simp only [List.length_cons, List.length_nil] at * <;> omega)) hR3 (HB.out.trans hB3)

set_option maxHeartbeats 16000000 in
set_option maxRecDepth 100000 in
theorem value_flag_nil (g : Nat) (c : UInt8) (bad : Bool) (P : Option (FM.V × Bs)) (w : World) (h : Rd g (c :: []) bad w) (hG : Glob w) (hg : GlobLt g) (hl : (c :: []).length < 4294967280) (hc : c.toNat = 63) (hb : bad = true → P = none) (hP : bad = false → FM.pValue (c :: []) = P) :
    Calls Tryz.prog 126 #[.pointer (some ⟨g, 0, none⟩)] w (VPost g (c :: []).length P w) := by
  have HR := Lib.hid h
  clear h
  have hPn : P = none := by
    cases bad with
    | true => exact hb rfl
    | false => rw [← hP rfl]; simp [FM.pValue, hc]
  subst hPn
  clear hb hP
  have hn34 : hd (c :: []) 34 = false := by simp [hd]; omega
  have hy63 : (c.toNat : Int) = 63 := by omega
  have HY := Lib.hid hy63
  clear hy63 hc
  have kT : (bs (c :: [])).toList = c :: [] := bs_toList _
  have kP : 0 < (bs (c :: [])).size := by rw [bs_size]; simp
  have kH := bs_head c _ kP
  have c0 := HR.out.c0
  have c1 := HR.out.c1
  have f0 := HR.out.f0
  have f1 := HR.out.f1
  go_enter Tryz.func126, Tryz.ntmps126
  go_wp2_with fail
  refine (take_no g _ _ 34 _ HR.out (by first | omega | (simp only [List.length_cons, List.length_nil] at * <;> omega)) hn34).mono ?_
  rintro e w' ⟨rfl, rfl⟩
  go_wp2_with fail
  refine (take_yes g c _ _ 63 _ HR.out (by first | omega | (simp only [List.length_cons, List.length_nil] at * <;> omega)) HY.out).mono ?_
  rintro e w' ⟨rfl, rfl⟩
  clear kT kP kH
  have hR2 : Rd g [] bad (w.setCell ⟨g, 0, none⟩ (.string (bs []))) := HR.out.set0
  have hB2 := (But.refl g w).set 0 (.string (bs []))
  clear c0 c1 f0 f1 HR
  obtain ⟨W2, hW2⟩ : ∃ W2, w.setCell ⟨g, 0, none⟩ (.string (bs [])) = W2 := ⟨_, rfl⟩
  rw [hW2] at hR2 hB2 ⊢
  clear hW2
  have HR := Lib.hid hR2
  have HB := Lib.hid hB2
  clear hR2 hB2
  have c0 := HR.out.c0
  have c1 := HR.out.c1
  have f0 := HR.out.f0
  have f1 := HR.out.f1
  have k1 : (bs []).toList = [] := bs_toList _
  have hn49 : hd [] 49 = false := rfl
  have hn48 : hd [] 48 = false := rfl
  cases bad with
  | true =>
    go_wp2_with fail
    refine (take_no g _ _ 49 _ HR.out (by first | omega | (simp only [List.length_cons, List.length_nil] at * <;> omega)) hn49).mono ?_
    rintro e w' ⟨rfl, rfl⟩
    go_wp2
    go_ret
    exact VPost.gone any_false (by first | omega | (simp only [List.length_cons, List.length_nil] at * <;> omega)) HR.out.set1 (HB.out.set _ _)
  | false =>
    go_wp2_with fail
    refine (take_no g _ _ 49 _ HR.out (by first | omega | (simp only [List.length_cons, List.length_nil] at * <;> omega)) hn49).mono ?_
    rintro e w' ⟨rfl, rfl⟩
    go_wp2_with fail
    refine (take_no g _ _ 48 _ HR.out (by first | omega | (simp only [List.length_cons, List.length_nil] at * <;> omega)) hn48).mono ?_
    rintro e w' ⟨rfl, rfl⟩
    go_wp2
    go_ret
    exact VPost.gone any_false (by first | omega | (simp only [List.length_cons, List.length_nil] at * <;> omega)) HR.out.set1 (HB.out.set _ _)

set_option maxHeartbeats 16000000 in
set_option maxRecDepth 100000 in
theorem value_flag_one (g : Nat) (c d : UInt8) (r : Bs) (bad : Bool) (P : Option (FM.V × Bs)) (w : World) (h : Rd g (c :: d :: r) bad w) (hG : Glob w) (hg : GlobLt g) (hl : (c :: d :: r).length < 4294967280) (hc : c.toNat = 63) (hd1 : d.toNat = 49) (hb : bad = true → P = none) (hP : bad = false → FM.pValue (c :: d :: r) = P) :
    Calls Tryz.prog 126 #[.pointer (some ⟨g, 0, none⟩)] w (VPost g (c :: d :: r).length P w) := by
  have HR := Lib.hid h
  clear h
  have hPn : P = if bad then none else some (⟨4, 1, []⟩, r) := by
    cases bad with
    | true => exact hb rfl
    | false => rw [← hP rfl]; simp [FM.pValue, hc, hd1]
  have HP := Lib.hid hPn
  clear hb hP hPn
  have hy49 : (d.toNat : Int) = 49 := by omega
  have HY2 := Lib.hid hy49
  clear hy49 hd1
  have hn34 : hd (c :: d :: r) 34 = false := by simp [hd]; omega
  have hy63 : (c.toNat : Int) = 63 := by omega
  have HY := Lib.hid hy63
  clear hy63 hc
  have kT : (bs (c :: d :: r)).toList = c :: d :: r := bs_toList _
  have kP : 0 < (bs (c :: d :: r)).size := by rw [bs_size]; simp
  have kH := bs_head c _ kP
  have c0 := HR.out.c0
  have c1 := HR.out.c1
  have f0 := HR.out.f0
  have f1 := HR.out.f1
  go_enter Tryz.func126, Tryz.ntmps126
  go_wp2_with fail
  refine (take_no g _ _ 34 _ HR.out (by first | omega | (simp only [List.length_cons, List.length_nil] at * <;> omega)) hn34).mono ?_
  rintro e w' ⟨rfl, rfl⟩
  go_wp2_with fail
  refine (take_yes g c _ _ 63 _ HR.out (by first | omega | (simp only [List.length_cons, List.length_nil] at * <;> omega)) HY.out).mono ?_
  rintro e w' ⟨rfl, rfl⟩
  clear kT kP kH
  have hR2 : Rd g (d :: r) bad (w.setCell ⟨g, 0, none⟩ (.string (bs (d :: r)))) := HR.out.set0
  have hB2 := (But.refl g w).set 0 (.string (bs (d :: r)))
  clear c0 c1 f0 f1 HR
  obtain ⟨W2, hW2⟩ : ∃ W2, w.setCell ⟨g, 0, none⟩ (.string (bs (d :: r))) = W2 := ⟨_, rfl⟩
  rw [hW2] at hR2 hB2 ⊢
  clear hW2
  have HR := Lib.hid hR2
  have HB := Lib.hid hB2
  clear hR2 hB2
  have c0 := HR.out.c0
  have c1 := HR.out.c1
  have f0 := HR.out.f0
  have f1 := HR.out.f1
  go_wp2_with fail
  refine (take_yes g d r _ 49 _ HR.out (by first | omega | (simp only [List.length_cons, List.length_nil] at * <;> omega)) HY2.out).mono ?_
  rintro e w' ⟨rfl, rfl⟩
  have hR3 : Rd g r bad (W2.setCell ⟨g, 0, none⟩ (.string (bs r))) := HR.out.set0
  have hB3 := HB.out.set 0 (.string (bs r))
  clear c0 c1 f0 f1 HR HB
  obtain ⟨W3, hW3⟩ : ∃ W3, W2.setCell ⟨g, 0, none⟩ (.string (bs r)) = W3 := ⟨_, rfl⟩
  rw [hW3] at hR3 hB3 ⊢
  clear hW3
  have HR := Lib.hid hR3
  have HB := Lib.hid hB3
  clear hR3 hB3
  have c1 := HR.out.c1
  have f1 := HR.out.f1
  cases bad with
  | true =>
    go_wp2
    go_ret
    rw [HP.out]
    exact VPost.gone any_true (by first | omega | (simp only [List.length_cons, List.length_nil] at * <;> omega)) HR.out.set1 (HB.out.set _ _)
  | false =>
    go_wp2
    go_ret
    rw [HP.out]
    exact ⟨_, rfl, .inr (.inr (.inr (.inl ⟨rfl, rfl⟩))), HR.out.set1, HB.out.set _ _⟩

set_option maxHeartbeats 16000000 in
set_option maxRecDepth 100000 in
theorem value_flag_nought (g : Nat) (c d : UInt8) (r : Bs) (bad : Bool) (P : Option (FM.V × Bs)) (w : World) (h : Rd g (c :: d :: r) bad w) (hG : Glob w) (hg : GlobLt g) (hl : (c :: d :: r).length < 4294967280) (hc : c.toNat = 63) (hd1 : d.toNat = 48) (hb : bad = true → P = none) (hP : bad = false → FM.pValue (c :: d :: r) = P) :
    Calls Tryz.prog 126 #[.pointer (some ⟨g, 0, none⟩)] w (VPost g (c :: d :: r).length P w) := by
  have HR := Lib.hid h
  clear h
  have hPn : P = if bad then none else some (⟨4, 0, []⟩, r) := by
    cases bad with
    | true => exact hb rfl
    | false => rw [← hP rfl]; simp [FM.pValue, hc, hd1]
  have HP := Lib.hid hPn
  clear hb hP hPn
  have hn49 : hd (d :: r) 49 = false := by simp [hd]; omega
  have hy48 : (d.toNat : Int) = 48 := by omega
  have HY2 := Lib.hid hy48
  clear hy48 hd1
  have hn34 : hd (c :: d :: r) 34 = false := by simp [hd]; omega
  have hy63 : (c.toNat : Int) = 63 := by omega
  have HY := Lib.hid hy63
  clear hy63 hc
  have kT : (bs (c :: d :: r)).toList = c :: d :: r := bs_toList _
  have kP : 0 < (bs (c :: d :: r)).size := by rw [bs_size]; simp
  have kH := bs_head c _ kP
  have c0 := HR.out.c0
  have c1 := HR.out.c1
  have f0 := HR.out.f0
  have f1 := HR.out.f1
  go_enter Tryz.func126, Tryz.ntmps126
  go_wp2_with fail
  refine (take_no g _ _ 34 _ HR.out (by first | omega | (simp only [List.length_cons, List.length_nil] at * <;> omega)) hn34).mono ?_
  rintro e w' ⟨rfl, rfl⟩
  go_wp2_with fail
  refine (take_yes g c _ _ 63 _ HR.out (by first | omega | (simp only [List.length_cons, List.length_nil] at * <;> omega)) HY.out).mono ?_
  rintro e w' ⟨rfl, rfl⟩
  clear kT kP kH
  have hR2 : Rd g (d :: r) bad (w.setCell ⟨g, 0, none⟩ (.string (bs (d :: r)))) := HR.out.set0
  have hB2 := (But.refl g w).set 0 (.string (bs (d :: r)))
  clear c0 c1 f0 f1 HR
  obtain ⟨W2, hW2⟩ : ∃ W2, w.setCell ⟨g, 0, none⟩ (.string (bs (d :: r))) = W2 := ⟨_, rfl⟩
  rw [hW2] at hR2 hB2 ⊢
  clear hW2
  have HR := Lib.hid hR2
  have HB := Lib.hid hB2
  clear hR2 hB2
  have c0 := HR.out.c0
  have c1 := HR.out.c1
  have f0 := HR.out.f0
  have f1 := HR.out.f1
  go_wp2_with fail
  refine (take_no g _ _ 49 _ HR.out (by first | omega | (simp only [List.length_cons, List.length_nil] at * <;> omega)) hn49).mono ?_
  rintro e w' ⟨rfl, rfl⟩
  cases bad with
  | true =>
    go_wp2
    go_ret
    rw [HP.out]
    exact VPost.gone any_false (by first | omega | (simp only [List.length_cons, List.length_nil] at * <;> omega)) HR.out.set1 (HB.out.set _ _)
  | false =>
    go_wp2_with fail
    refine (take_yes g d r _ 48 _ HR.out (by first | omega | (simp only [List.length_cons, List.length_nil] at * <;> omega)) HY2.out).mono ?_
    rintro e w' ⟨rfl, rfl⟩
    have hR3 : Rd g r false (W2.setCell ⟨g, 0, none⟩ (.string (bs r))) := HR.out.set0
    have hB3 := HB.out.set 0 (.string (bs r))
    clear c0 c1 f0 f1 HR HB
    obtain ⟨W3, hW3⟩ : ∃ W3, W2.setCell ⟨g, 0, none⟩ (.string (bs r)) = W3 := ⟨_, rfl⟩
    rw [hW3] at hR3 hB3 ⊢
    clear hW3
    have HR := Lib.hid hR3
    have HB := Lib.hid hB3
    clear hR3 hB3
    have c1 := HR.out.c1
    have f1 := HR.out.f1
    go_wp2
    go_ret
    rw [HP.out]
    exact ⟨_, rfl, .inr (.inr (.inr (.inr ⟨rfl, rfl⟩))), HR.out.set1, HB.out.set _ _⟩

set_option maxHeartbeats 16000000 in
set_option maxRecDepth 100000 in
theorem value_flag_none (g : Nat) (c d : UInt8) (r : Bs) (bad : Bool) (P : Option (FM.V × Bs)) (w : World) (h : Rd g (c :: d :: r) bad w) (hG : Glob w) (hg : GlobLt g) (hl : (c :: d :: r).length < 4294967280) (hc : c.toNat = 63) (hd1 : d.toNat ≠ 49) (hd2 : d.toNat ≠ 48) (hb : bad = true → P = none) (hP : bad = false → FM.pValue (c :: d :: r) = P) :
    Calls Tryz.prog 126 #[.pointer (some ⟨g, 0, none⟩)] w (VPost g (c :: d :: r).length P w) := by
  have HR := Lib.hid h
  clear h
  have hPn : P = none := by
    cases bad with
    | true => exact hb rfl
    | false => rw [← hP rfl]; simp [FM.pValue, hc, hd1, hd2]
  subst hPn
  clear hb hP
  have hn49 : hd (d :: r) 49 = false := by simp [hd]; omega
  have hn48 : hd (d :: r) 48 = false := by simp [hd]; omega
  clear hd1 hd2
  have hn34 : hd (c :: d :: r) 34 = false := by simp [hd]; omega
  have hy63 : (c.toNat : Int) = 63 := by omega
  have HY := Lib.hid hy63
  clear hy63 hc
  have kT : (bs (c :: d :: r)).toList = c :: d :: r := bs_toList _
  have kP : 0 < (bs (c :: d :: r)).size := by rw [bs_size]; simp
  have kH := bs_head c _ kP
  have c0 := HR.out.c0
  have c1 := HR.out.c1
  have f0 := HR.out.f0
  have f1 := HR.out.f1
  go_enter Tryz.func126, Tryz.ntmps126
  go_wp2_with fail
  refine (take_no g _ _ 34 _ HR.out (by first | omega | (simp only [List.length_cons, List.length_nil] at * <;> omega)) hn34).mono ?_
  rintro e w' ⟨rfl, rfl⟩
  go_wp2_with fail
  refine (take_yes g c _ _ 63 _ HR.out (by first | omega | (simp only [List.length_cons, List.length_nil] at * <;> omega)) HY.out).mono ?_
  rintro e w' ⟨rfl, rfl⟩
  clear kT kP kH
  have hR2 : Rd g (d :: r) bad (w.setCell ⟨g, 0, none⟩ (.string (bs (d :: r)))) := HR.out.set0
  have hB2 := (But.refl g w).set 0 (.string (bs (d :: r)))
  clear c0 c1 f0 f1 HR
  obtain ⟨W2, hW2⟩ : ∃ W2, w.setCell ⟨g, 0, none⟩ (.string (bs (d :: r))) = W2 := ⟨_, rfl⟩
  rw [hW2] at hR2 hB2 ⊢
  clear hW2
  have HR := Lib.hid hR2
  have HB := Lib.hid hB2
  clear hR2 hB2
  have c0 := HR.out.c0
  have c1 := HR.out.c1
  have f0 := HR.out.f0
  have f1 := HR.out.f1
  go_wp2_with fail
  refine (take_no g _ _ 49 _ HR.out (by first | omega | (simp only [List.length_cons, List.length_nil] at * <;> omega)) hn49).mono ?_
  rintro e w' ⟨rfl, rfl⟩
  cases bad with
  | true =>
    go_wp2
    go_ret
    exact VPost.gone any_false (by first | omega | (simp only [List.length_cons, List.length_nil] at * <;> omega)) HR.out.set1 (HB.out.set _ _)
  | false =>
    go_wp2_with fail
    refine (take_no g _ _ 48 _ HR.out (by first | omega | (simp only [List.length_cons, List.length_nil] at * <;> omega)) hn48).mono ?_
    rintro e w' ⟨rfl, rfl⟩
    go_wp2
    go_ret
    exact VPost.gone any_false (by first | omega | (simp only [List.length_cons, List.length_nil] at * <;> omega)) HR.out.set1 (HB.out.set _ _)

set_option maxHeartbeats 16000000 in
set_option maxRecDepth 100000 in
theorem value_minus (g : Nat) (c : UInt8) (r : Bs) (bad : Bool) (P : Option (FM.V × Bs)) (w : World) (h : Rd g (c :: r) bad w) (hG : Glob w) (hg : GlobLt g) (hl : (c :: r).length < 4294967280) (hc : c.toNat = 45) (hb : bad = true → P = none) (hP : bad = false → FM.pValue (c :: r) = P) :
    Calls Tryz.prog 126 #[.pointer (some ⟨g, 0, none⟩)] w (VPost g (c :: r).length P w) := by
  have HR := Lib.hid h
  clear h
  have e45 : hd (c :: r) 45 = true := by simp [hd]; omega
  have etl : tl (c :: r) 45 = r := by simp [tl, e45]
  have hpv : FM.pValue (c :: r) = FM.pDigits true r := by simp [FM.pValue, hc]
  rw [hpv] at hP
  have hneg : (if hd (c :: r) 45 = true then True else False) := by rw [if_pos e45]; trivial
  obtain ⟨T, hT⟩ : ∃ T, (tl (c :: r) 45).takeWhile FM.digit = T := ⟨_, rfl⟩
  obtain ⟨D, hD⟩ : ∃ D, (tl (c :: r) 45).dropWhile FM.digit = D := ⟨_, rfl⟩
  by_cases hno : bad = true ∨ T.length = 0 ∨ 15 < T.length
  · have hPn : P = none := by
      cases bad with
      | true => exact hb rfl
      | false =>
        rw [← hP rfl]
        have hno' : T.length = 0 ∨ 15 < T.length := by rcases hno with h | h; cases h; exact h
        rw [← hT] at hno'
        skip
        unfold FM.pDigits
        rw [if_pos (by simpa [etl] using hno')]
    subst hPn
    have HN := Lib.hid (fun W (hW : Rd g (c :: r) bad W) hGW => number_no g (c :: r) T bad W hW hGW hg (by first | omega | (simp only [List.length_cons, List.length_nil] at * <;> omega)) hT hno)
    clear hb hP hT hD hno
    have kT : (bs (c :: r)).toList = c :: r := bs_toList _
    have kP : 0 < (bs (c :: r)).size := by rw [bs_size]; simp
    have kH := bs_head c r kP
    have hn34 : hd (c :: r) 34 = false := by simp [hd]; omega
    have hn63 : hd (c :: r) 63 = false := by simp [hd]; omega
    have h45 : ((c.toNat : Int) == 45) = true := by rw [hc]; rfl
    have c0 := HR.out.c0
    have c1 := HR.out.c1
    have f0 := HR.out.f0
    have f1 := HR.out.f1
    clear e45 etl hpv hneg hc
    go_enter Tryz.func126, Tryz.ntmps126
    go_wp2_with fail
    refine (take_no g _ _ 34 _ HR.out (by first | omega | (simp only [List.length_cons, List.length_nil] at * <;> omega)) hn34).mono ?_
    rintro e w' ⟨rfl, rfl⟩
    go_wp2_with fail
    refine (take_no g _ _ 63 _ HR.out (by first | omega | (simp only [List.length_cons, List.length_nil] at * <;> omega)) hn63).mono ?_
    rintro e w' ⟨rfl, rfl⟩
    go_wp2_with fail
    refine (HN.out _ HR.out hG).mono ?_
    rintro e w3 ⟨v, r', rfl, ⟨n, rfl⟩, hr', hR3, hB3⟩
    go_wp2_with fail
    go_ret
    exact VPost.gone (any_int n) hr' hR3 hB3
  · have hbf : bad = false := by cases bad with
      | true => exact absurd (.inl rfl) hno
      | false => rfl
    subst hbf
    have h0 : 1 ≤ T.length := by rcases Nat.eq_zero_or_pos T.length with h | h; exact absurd (.inr (.inl h)) hno; exact h
    have h15 : T.length ≤ 15 := by rcases Nat.lt_or_ge 15 T.length with h | h; exact absurd (.inr (.inr h)) hno; exact h
    have hPn : P = some (⟨1, -(FM.num T), []⟩, D) := by
      rw [← hP rfl]
      rw [← hT] at h0 h15
      skip
      unfold FM.pDigits
      rw [if_neg (by simp only [etl] at h0 h15; omega)]
      rw [← hT, ← hD]
      simp [etl, e45]
    subst hPn
    have HN := Lib.hid (fun W (hW : Rd g (c :: r) false W) hGW => number_yes g (c :: r) T D true W hW hGW hg (by first | omega | (simp only [List.length_cons, List.length_nil] at * <;> omega)) e45 hT hD h0 h15)
    clear hb hP hT hD hno h0 h15
    have kT : (bs (c :: r)).toList = c :: r := bs_toList _
    have kP : 0 < (bs (c :: r)).size := by rw [bs_size]; simp
    have kH := bs_head c r kP
    have hn34 : hd (c :: r) 34 = false := by simp [hd]; omega
    have hn63 : hd (c :: r) 63 = false := by simp [hd]; omega
    have h45 : ((c.toNat : Int) == 45) = true := by rw [hc]; rfl
    have c0 := HR.out.c0
    have c1 := HR.out.c1
    have f0 := HR.out.f0
    have f1 := HR.out.f1
    clear e45 etl hpv hneg hc
    go_enter Tryz.func126, Tryz.ntmps126
    go_wp2_with fail
    refine (take_no g _ _ 34 _ HR.out (by first | omega | (simp only [List.length_cons, List.length_nil] at * <;> omega)) hn34).mono ?_
    rintro e w' ⟨rfl, rfl⟩
    go_wp2_with fail
    refine (take_no g _ _ 63 _ HR.out (by first | omega | (simp only [List.length_cons, List.length_nil] at * <;> omega)) hn63).mono ?_
    rintro e w' ⟨rfl, rfl⟩
    go_wp2_with fail
    refine (HN.out _ HR.out hG).mono ?_
    rintro e w3 ⟨rfl, hR3, hB3⟩
    go_wp2_with fail
    go_ret
    exact ⟨_, rfl, .inl ⟨_, rfl, rfl⟩, hR3, hB3⟩

set_option maxHeartbeats 16000000 in
set_option maxRecDepth 100000 in
theorem value_digit (g : Nat) (c : UInt8) (r : Bs) (bad : Bool) (P : Option (FM.V × Bs)) (w : World) (h : Rd g (c :: r) bad w) (hG : Glob w) (hg : GlobLt g) (hl : (c :: r).length < 4294967280) (hc : FM.digit c = true) (hb : bad = true → P = none) (hP : bad = false → FM.pValue (c :: r) = P) :
    Calls Tryz.prog 126 #[.pointer (some ⟨g, 0, none⟩)] w (VPost g (c :: r).length P w) := by
  have HR := Lib.hid h
  clear h
  have hcd : 48 ≤ c.toNat ∧ c.toNat ≤ 57 := by simpa [FM.digit] using hc
  have e45 : hd (c :: r) 45 = false := by simp [hd]; omega
  have etl : tl (c :: r) 45 = c :: r := by simp [tl, e45]
  have hpv : FM.pValue (c :: r) = FM.pDigits false (c :: r) := by simp [FM.pValue, hc, show c.toNat ≠ 34 by omega, show c.toNat ≠ 63 by omega, show c.toNat ≠ 45 by omega]
  rw [hpv] at hP
  obtain ⟨T, hT⟩ : ∃ T, (tl (c :: r) 45).takeWhile FM.digit = T := ⟨_, rfl⟩
  obtain ⟨D, hD⟩ : ∃ D, (tl (c :: r) 45).dropWhile FM.digit = D := ⟨_, rfl⟩
  by_cases hno : bad = true ∨ T.length = 0 ∨ 15 < T.length
  · have hPn : P = none := by
      cases bad with
      | true => exact hb rfl
      | false =>
        rw [← hP rfl]
        have hno' : T.length = 0 ∨ 15 < T.length := by rcases hno with h | h; cases h; exact h
        rw [← hT] at hno'
        skip
        unfold FM.pDigits
        rw [if_pos (by simpa [etl] using hno')]
    subst hPn
    have HN := Lib.hid (fun W (hW : Rd g (c :: r) bad W) hGW => number_no g (c :: r) T bad W hW hGW hg (by first | omega | (simp only [List.length_cons, List.length_nil] at * <;> omega)) hT hno)
    clear hb hP hT hD hno
    have kT : (bs (c :: r)).toList = c :: r := bs_toList _
    have kP : 0 < (bs (c :: r)).size := by rw [bs_size]; simp
    have kH := bs_head c r kP
    have hn34 : hd (c :: r) 34 = false := by simp [hd]; omega
    have hn63 : hd (c :: r) 63 = false := by simp [hd]; omega
    have h45 : ((c.toNat : Int) == 45) = false := by simp; omega
    have HC : Hid (∀ W, Calls Tryz.prog 146 #[.int .u8 (c.toNat : Int)] W fun e w' => e = .returned (.bool true) ∧ W = w') := Lib.hid fun W => by
      have := digit_any c W; rw [hc] at this; exact this
    have c0 := HR.out.c0
    have c1 := HR.out.c1
    have f0 := HR.out.f0
    have f1 := HR.out.f1
    clear e45 etl hpv hc hcd
    go_enter Tryz.func126, Tryz.ntmps126
    go_wp2_with fail
    refine (take_no g _ _ 34 _ HR.out (by first | omega | (simp only [List.length_cons, List.length_nil] at * <;> omega)) hn34).mono ?_
    rintro e w' ⟨rfl, rfl⟩
    go_wp2_with fail
    refine (take_no g _ _ 63 _ HR.out (by first | omega | (simp only [List.length_cons, List.length_nil] at * <;> omega)) hn63).mono ?_
    rintro e w' ⟨rfl, rfl⟩
    go_wp2_with fail
    refine (HC.out _).mono ?_
    rintro e w' ⟨rfl, rfl⟩
    go_wp2_with fail
    refine (HN.out _ HR.out hG).mono ?_
    rintro e w3 ⟨v, r', rfl, ⟨n, rfl⟩, hr', hR3, hB3⟩
    go_wp2_with fail
    go_ret
    exact VPost.gone (any_int n) hr' hR3 hB3
  · have hbf : bad = false := by cases bad with
      | true => exact absurd (.inl rfl) hno
      | false => rfl
    subst hbf
    have h0 : 1 ≤ T.length := by rcases Nat.eq_zero_or_pos T.length with h | h; exact absurd (.inr (.inl h)) hno; exact h
    have h15 : T.length ≤ 15 := by rcases Nat.lt_or_ge 15 T.length with h | h; exact absurd (.inr (.inr h)) hno; exact h
    have hPn : P = some (⟨1, FM.num T, []⟩, D) := by
      rw [← hP rfl]
      rw [← hT] at h0 h15
      skip
      unfold FM.pDigits
      rw [if_neg (by simp only [etl] at h0 h15; omega)]
      rw [← hT, ← hD]
      simp [etl, e45]
    subst hPn
    have HN := Lib.hid (fun W (hW : Rd g (c :: r) false W) hGW => number_yes g (c :: r) T D false W hW hGW hg (by first | omega | (simp only [List.length_cons, List.length_nil] at * <;> omega)) e45 hT hD h0 h15)
    clear hb hP hT hD hno h0 h15
    have kT : (bs (c :: r)).toList = c :: r := bs_toList _
    have kP : 0 < (bs (c :: r)).size := by rw [bs_size]; simp
    have kH := bs_head c r kP
    have hn34 : hd (c :: r) 34 = false := by simp [hd]; omega
    have hn63 : hd (c :: r) 63 = false := by simp [hd]; omega
    have h45 : ((c.toNat : Int) == 45) = false := by simp; omega
    have HC : Hid (∀ W, Calls Tryz.prog 146 #[.int .u8 (c.toNat : Int)] W fun e w' => e = .returned (.bool true) ∧ W = w') := Lib.hid fun W => by
      have := digit_any c W; rw [hc] at this; exact this
    have c0 := HR.out.c0
    have c1 := HR.out.c1
    have f0 := HR.out.f0
    have f1 := HR.out.f1
    clear e45 etl hpv hc hcd
    go_enter Tryz.func126, Tryz.ntmps126
    go_wp2_with fail
    refine (take_no g _ _ 34 _ HR.out (by first | omega | (simp only [List.length_cons, List.length_nil] at * <;> omega)) hn34).mono ?_
    rintro e w' ⟨rfl, rfl⟩
    go_wp2_with fail
    refine (take_no g _ _ 63 _ HR.out (by first | omega | (simp only [List.length_cons, List.length_nil] at * <;> omega)) hn63).mono ?_
    rintro e w' ⟨rfl, rfl⟩
    go_wp2_with fail
    refine (HC.out _).mono ?_
    rintro e w' ⟨rfl, rfl⟩
    go_wp2_with fail
    refine (HN.out _ HR.out hG).mono ?_
    rintro e w3 ⟨rfl, hR3, hB3⟩
    go_wp2_with fail
    go_ret
    exact ⟨_, rfl, .inl ⟨_, rfl, rfl⟩, hR3, hB3⟩

set_option maxHeartbeats 16000000 in
set_option maxRecDepth 100000 in
theorem value_word1 (g : Nat) (c : UInt8) (r : Bs) (bad : Bool) (P : Option (FM.V × Bs)) (w : World) (h : Rd g (c :: r) bad w) (hG : Glob w) (hg : GlobLt g) (hl : (c :: r).length < 4294967280) (h34 : c.toNat ≠ 34) (h63 : c.toNat ≠ 63) (hc45 : c.toNat ≠ 45) (hcd : FM.digit c = false) (hcs : FM.small c = true) (hb : bad = true → P = none) (hP : bad = false → FM.pValue (c :: r) = P) :
    Calls Tryz.prog 126 #[.pointer (some ⟨g, 0, none⟩)] w (VPost g (c :: r).length P w) := by
  have HR := Lib.hid h
  clear h
  have hPn : P = if bad then none else some (⟨3, 0, (c :: r).takeWhile FM.inWord⟩, (c :: r).dropWhile FM.inWord) := by
    cases bad with
    | true => exact hb rfl
    | false => rw [← hP rfl]; simp only [FM.pValue]; rw [if_neg (by omega), if_neg (by omega), if_neg (by omega), if_neg (by rw [hcd]; simp), if_pos (.inl hcs)]; rfl
  have HP := Lib.hid hPn
  clear hb hP hPn
  have HSp := Lib.hid (fun W (hW : Rd g (c :: r) bad W) => span_inWord g (c :: r) bad W hW (by first | omega | (simp only [List.length_cons, List.length_nil] at * <;> omega)))
  have kT : (bs (c :: r)).toList = c :: r := bs_toList _
  have kP : 0 < (bs (c :: r)).size := by rw [bs_size]; simp
  have kH := bs_head c r kP
  have hn34 : hd (c :: r) 34 = false := by simp [hd]; omega
  have hn63 : hd (c :: r) 63 = false := by simp [hd]; omega
  have h45 : ((c.toNat : Int) == 45) = false := by simp; omega
  have HD : Hid (∀ W, Calls Tryz.prog 146 #[.int .u8 (c.toNat : Int)] W fun e w' => e = .returned (.bool false) ∧ W = w') := Lib.hid fun W => by
    have := digit_any c W; rw [hcd] at this; exact this
  have HS : Hid (∀ W, Calls Tryz.prog 125 #[.int .u8 (c.toNat : Int)] W fun e w' => e = .returned (.bool true) ∧ W = w') := Lib.hid fun W => by
    have := small_any c W; rw [hcs] at this; exact this
  clear hcd hcs h34 h63 hc45
  have c0 := HR.out.c0
  have c1 := HR.out.c1
  have f0 := HR.out.f0
  have f1 := HR.out.f1
  go_enter Tryz.func126, Tryz.ntmps126
  go_wp2_with fail
  refine (take_no g _ _ 34 _ HR.out (by first | omega | (simp only [List.length_cons, List.length_nil] at * <;> omega)) hn34).mono ?_
  rintro e w' ⟨rfl, rfl⟩
  go_wp2_with fail
  refine (take_no g _ _ 63 _ HR.out (by first | omega | (simp only [List.length_cons, List.length_nil] at * <;> omega)) hn63).mono ?_
  rintro e w' ⟨rfl, rfl⟩
  go_wp2_with fail
  refine (HD.out _).mono ?_
  rintro e w' ⟨rfl, rfl⟩
  go_wp2_with fail
  refine (HS.out _).mono ?_
  rintro e w' ⟨rfl, rfl⟩
  go_wp2_with fail
  refine (HSp.out _ HR.out).mono ?_
  rintro e w3 ⟨rfl, hR3, hB3⟩
  cases bad with
  | true =>
    go_wp2_with fail
    go_ret
    rw [HP.out]
    exact VPost.gone (any_word _) (FM.dropWhile_le _ _) hR3 hB3
  | false =>
    go_wp2_with fail
    go_ret
    rw [HP.out]
    exact ⟨_, rfl, .inr (.inr (.inl ⟨_, rfl, rfl⟩)), hR3, hB3⟩

set_option maxHeartbeats 16000000 in
set_option maxRecDepth 100000 in
theorem value_word2 (g : Nat) (c : UInt8) (r : Bs) (bad : Bool) (P : Option (FM.V × Bs)) (w : World) (h : Rd g (c :: r) bad w) (hG : Glob w) (hg : GlobLt g) (hl : (c :: r).length < 4294967280) (h34 : c.toNat ≠ 34) (h63 : c.toNat ≠ 63) (hc45 : c.toNat ≠ 45) (hcd : FM.digit c = false) (hcs : FM.small c = false) (hcl : FM.large c = true) (hb : bad = true → P = none) (hP : bad = false → FM.pValue (c :: r) = P) :
    Calls Tryz.prog 126 #[.pointer (some ⟨g, 0, none⟩)] w (VPost g (c :: r).length P w) := by
  have HR := Lib.hid h
  clear h
  have hPn : P = if bad then none else some (⟨3, 0, (c :: r).takeWhile FM.inWord⟩, (c :: r).dropWhile FM.inWord) := by
    cases bad with
    | true => exact hb rfl
    | false => rw [← hP rfl]; simp only [FM.pValue]; rw [if_neg (by omega), if_neg (by omega), if_neg (by omega), if_neg (by rw [hcd]; simp), if_pos (.inr (.inl hcl))]; rfl
  have HP := Lib.hid hPn
  clear hb hP hPn
  have HSp := Lib.hid (fun W (hW : Rd g (c :: r) bad W) => span_inWord g (c :: r) bad W hW (by first | omega | (simp only [List.length_cons, List.length_nil] at * <;> omega)))
  have kT : (bs (c :: r)).toList = c :: r := bs_toList _
  have kP : 0 < (bs (c :: r)).size := by rw [bs_size]; simp
  have kH := bs_head c r kP
  have hn34 : hd (c :: r) 34 = false := by simp [hd]; omega
  have hn63 : hd (c :: r) 63 = false := by simp [hd]; omega
  have h45 : ((c.toNat : Int) == 45) = false := by simp; omega
  have HD : Hid (∀ W, Calls Tryz.prog 146 #[.int .u8 (c.toNat : Int)] W fun e w' => e = .returned (.bool false) ∧ W = w') := Lib.hid fun W => by
    have := digit_any c W; rw [hcd] at this; exact this
  have HS : Hid (∀ W, Calls Tryz.prog 125 #[.int .u8 (c.toNat : Int)] W fun e w' => e = .returned (.bool false) ∧ W = w') := Lib.hid fun W => by
    have := small_any c W; rw [hcs] at this; exact this
  have HLa : Hid (∀ W, Calls Tryz.prog 148 #[.int .u8 (c.toNat : Int)] W fun e w' => e = .returned (.bool true) ∧ W = w') := Lib.hid fun W => by
    have := large_any c W; rw [hcl] at this; exact this
  clear hcd hcs hcl h34 h63 hc45
  have c0 := HR.out.c0
  have c1 := HR.out.c1
  have f0 := HR.out.f0
  have f1 := HR.out.f1
  go_enter Tryz.func126, Tryz.ntmps126
  go_wp2_with fail
  refine (take_no g _ _ 34 _ HR.out (by first | omega | (simp only [List.length_cons, List.length_nil] at * <;> omega)) hn34).mono ?_
  rintro e w' ⟨rfl, rfl⟩
  go_wp2_with fail
  refine (take_no g _ _ 63 _ HR.out (by first | omega | (simp only [List.length_cons, List.length_nil] at * <;> omega)) hn63).mono ?_
  rintro e w' ⟨rfl, rfl⟩
  go_wp2_with fail
  refine (HD.out _).mono ?_
  rintro e w' ⟨rfl, rfl⟩
  go_wp2_with fail
  refine (HS.out _).mono ?_
  rintro e w' ⟨rfl, rfl⟩
  go_wp2_with fail
  refine (HLa.out _).mono ?_
  rintro e w' ⟨rfl, rfl⟩
  go_wp2_with fail
  refine (HSp.out _ HR.out).mono ?_
  rintro e w3 ⟨rfl, hR3, hB3⟩
  cases bad with
  | true =>
    go_wp2_with fail
    go_ret
    rw [HP.out]
    exact VPost.gone (any_word _) (FM.dropWhile_le _ _) hR3 hB3
  | false =>
    go_wp2_with fail
    go_ret
    rw [HP.out]
    exact ⟨_, rfl, .inr (.inr (.inl ⟨_, rfl, rfl⟩)), hR3, hB3⟩

set_option maxHeartbeats 16000000 in
set_option maxRecDepth 100000 in
theorem value_word3 (g : Nat) (c : UInt8) (r : Bs) (bad : Bool) (P : Option (FM.V × Bs)) (w : World) (h : Rd g (c :: r) bad w) (hG : Glob w) (hg : GlobLt g) (hl : (c :: r).length < 4294967280) (h34 : c.toNat ≠ 34) (h63 : c.toNat ≠ 63) (hc45 : c.toNat ≠ 45) (hcd : FM.digit c = false) (hcs : FM.small c = false) (hcl : FM.large c = false) (h42 : c.toNat = 42) (hb : bad = true → P = none) (hP : bad = false → FM.pValue (c :: r) = P) :
    Calls Tryz.prog 126 #[.pointer (some ⟨g, 0, none⟩)] w (VPost g (c :: r).length P w) := by
  have HR := Lib.hid h
  clear h
  have hPn : P = if bad then none else some (⟨3, 0, (c :: r).takeWhile FM.inWord⟩, (c :: r).dropWhile FM.inWord) := by
    cases bad with
    | true => exact hb rfl
    | false => rw [← hP rfl]; simp only [FM.pValue]; rw [if_neg (by omega), if_neg (by omega), if_neg (by omega), if_neg (by rw [hcd]; simp), if_pos (.inr (.inr h42))]; rfl
  have HP := Lib.hid hPn
  clear hb hP hPn
  have HSp := Lib.hid (fun W (hW : Rd g (c :: r) bad W) => span_inWord g (c :: r) bad W hW (by first | omega | (simp only [List.length_cons, List.length_nil] at * <;> omega)))
  have kT : (bs (c :: r)).toList = c :: r := bs_toList _
  have kP : 0 < (bs (c :: r)).size := by rw [bs_size]; simp
  have kH := bs_head c r kP
  have hn34 : hd (c :: r) 34 = false := by simp [hd]; omega
  have hn63 : hd (c :: r) 63 = false := by simp [hd]; omega
  have h45 : ((c.toNat : Int) == 45) = false := by simp; omega
  have HD : Hid (∀ W, Calls Tryz.prog 146 #[.int .u8 (c.toNat : Int)] W fun e w' => e = .returned (.bool false) ∧ W = w') := Lib.hid fun W => by
    have := digit_any c W; rw [hcd] at this; exact this
  have HS : Hid (∀ W, Calls Tryz.prog 125 #[.int .u8 (c.toNat : Int)] W fun e w' => e = .returned (.bool false) ∧ W = w') := Lib.hid fun W => by
    have := small_any c W; rw [hcs] at this; exact this
  have HLa : Hid (∀ W, Calls Tryz.prog 148 #[.int .u8 (c.toNat : Int)] W fun e w' => e = .returned (.bool false) ∧ W = w') := Lib.hid fun W => by
    have := large_any c W; rw [hcl] at this; exact this
  have h42' : ((c.toNat : Int) == 42) = true := by rw [h42]; rfl
  clear hcd hcs hcl h34 h63 hc45 h42
  have c0 := HR.out.c0
  have c1 := HR.out.c1
  have f0 := HR.out.f0
  have f1 := HR.out.f1
  go_enter Tryz.func126, Tryz.ntmps126
  go_wp2_with fail
  refine (take_no g _ _ 34 _ HR.out (by first | omega | (simp only [List.length_cons, List.length_nil] at * <;> omega)) hn34).mono ?_
  rintro e w' ⟨rfl, rfl⟩
  go_wp2_with fail
  refine (take_no g _ _ 63 _ HR.out (by first | omega | (simp only [List.length_cons, List.length_nil] at * <;> omega)) hn63).mono ?_
  rintro e w' ⟨rfl, rfl⟩
  go_wp2_with fail
  refine (HD.out _).mono ?_
  rintro e w' ⟨rfl, rfl⟩
  go_wp2_with fail
  refine (HS.out _).mono ?_
  rintro e w' ⟨rfl, rfl⟩
  go_wp2_with fail
  refine (HLa.out _).mono ?_
  rintro e w' ⟨rfl, rfl⟩
  go_wp2_with fail
  refine (HSp.out _ HR.out).mono ?_
  rintro e w3 ⟨rfl, hR3, hB3⟩
  cases bad with
  | true =>
    go_wp2_with fail
    go_ret
    rw [HP.out]
    exact VPost.gone (any_word _) (FM.dropWhile_le _ _) hR3 hB3
  | false =>
    go_wp2_with fail
    go_ret
    rw [HP.out]
    exact ⟨_, rfl, .inr (.inr (.inl ⟨_, rfl, rfl⟩)), hR3, hB3⟩

set_option maxHeartbeats 16000000 in
set_option maxRecDepth 100000 in
theorem value_none (g : Nat) (c : UInt8) (r : Bs) (bad : Bool) (P : Option (FM.V × Bs)) (w : World) (h : Rd g (c :: r) bad w) (hG : Glob w) (hg : GlobLt g) (hl : (c :: r).length < 4294967280) (h34 : c.toNat ≠ 34) (h63 : c.toNat ≠ 63) (hc45 : c.toNat ≠ 45) (hcd : FM.digit c = false) (hcs : FM.small c = false) (hcl : FM.large c = false) (h42 : c.toNat ≠ 42) (hb : bad = true → P = none) (hP : bad = false → FM.pValue (c :: r) = P) :
    Calls Tryz.prog 126 #[.pointer (some ⟨g, 0, none⟩)] w (VPost g (c :: r).length P w) := by
  have HR := Lib.hid h
  clear h
  have hPn : P = none := by
    cases bad with
    | true => exact hb rfl
    | false => rw [← hP rfl]; simp only [FM.pValue]; rw [if_neg (by omega), if_neg (by omega), if_neg (by omega), if_neg (by rw [hcd]; simp), if_neg (by rw [hcs, hcl]; simp; omega)]
  subst hPn
  clear hb hP
  have kT : (bs (c :: r)).toList = c :: r := bs_toList _
  have kP : 0 < (bs (c :: r)).size := by rw [bs_size]; simp
  have kH := bs_head c r kP
  have hn34 : hd (c :: r) 34 = false := by simp [hd]; omega
  have hn63 : hd (c :: r) 63 = false := by simp [hd]; omega
  have h45 : ((c.toNat : Int) == 45) = false := by simp; omega
  have HD : Hid (∀ W, Calls Tryz.prog 146 #[.int .u8 (c.toNat : Int)] W fun e w' => e = .returned (.bool false) ∧ W = w') := Lib.hid fun W => by
    have := digit_any c W; rw [hcd] at this; exact this
  have HS : Hid (∀ W, Calls Tryz.prog 125 #[.int .u8 (c.toNat : Int)] W fun e w' => e = .returned (.bool false) ∧ W = w') := Lib.hid fun W => by
    have := small_any c W; rw [hcs] at this; exact this
  have HLa : Hid (∀ W, Calls Tryz.prog 148 #[.int .u8 (c.toNat : Int)] W fun e w' => e = .returned (.bool false) ∧ W = w') := Lib.hid fun W => by
    have := large_any c W; rw [hcl] at this; exact this
  have h42' : ((c.toNat : Int) == 42) = false := by simp; omega
  clear hcd hcs hcl h34 h63 hc45 h42
  have c0 := HR.out.c0
  have c1 := HR.out.c1
  have f0 := HR.out.f0
  have f1 := HR.out.f1
  go_enter Tryz.func126, Tryz.ntmps126
  go_wp2_with fail
  refine (take_no g _ _ 34 _ HR.out (by first | omega | (simp only [List.length_cons, List.length_nil] at * <;> omega)) hn34).mono ?_
  rintro e w' ⟨rfl, rfl⟩
  go_wp2_with fail
  refine (take_no g _ _ 63 _ HR.out (by first | omega | (simp only [List.length_cons, List.length_nil] at * <;> omega)) hn63).mono ?_
  rintro e w' ⟨rfl, rfl⟩
  go_wp2_with fail
  refine (HD.out _).mono ?_
  rintro e w' ⟨rfl, rfl⟩
  go_wp2_with fail
  refine (HS.out _).mono ?_
  rintro e w' ⟨rfl, rfl⟩
  go_wp2_with fail
  refine (HLa.out _).mono ?_
  rintro e w' ⟨rfl, rfl⟩
  go_wp2
  go_ret
  exact VPost.gone any_false (Nat.le_refl _) HR.out.set1 ((But.refl _ _).set _ _)

theorem value_any (g : Nat) (l : Bs) (bad : Bool) (P : Option (FM.V × Bs)) (w : World) (h : Rd g l bad w) (hG : Glob w) (hg : GlobLt g) (hl : l.length < 4294967280) (hb : bad = true → P = none) (hP : bad = false → FM.pValue l = P) :
    Calls Tryz.prog 126 #[.pointer (some ⟨g, 0, none⟩)] w (VPost g l.length P w) := by
  match l with
  | [] => exact value_nil g bad P w h hG hg hl hb hP
  | c :: r =>
    by_cases h34 : c.toNat = 34
    · exact value_text g c r bad P w h hG hg hl h34 hb hP
    by_cases h63 : c.toNat = 63
    · match r with
      | [] => exact value_flag_nil g c bad P w h hG hg hl h63 hb hP
      | d :: r =>
        by_cases d1 : d.toNat = 49
        · exact value_flag_one g c d r bad P w h hG hg hl h63 d1 hb hP
        by_cases d2 : d.toNat = 48
        · exact value_flag_nought g c d r bad P w h hG hg hl h63 d2 hb hP
        exact value_flag_none g c d r bad P w h hG hg hl h63 d1 d2 hb hP
    by_cases h45 : c.toNat = 45
    · exact value_minus g c r bad P w h hG hg hl h45 hb hP
    cases hcd : FM.digit c with
    | true => exact value_digit g c r bad P w h hG hg hl hcd hb hP
    | false =>
      cases hcs : FM.small c with
      | true => exact value_word1 g c r bad P w h hG hg hl h34 h63 h45 hcd hcs hb hP
      | false =>
        cases hcl : FM.large c with
        | true => exact value_word2 g c r bad P w h hG hg hl h34 h63 h45 hcd hcs hcl hb hP
        | false =>
          by_cases h42 : c.toNat = 42
          · exact value_word3 g c r bad P w h hG hg hl h34 h63 h45 hcd hcs hcl h42 hb hP
          · exact value_none g c r bad P w h hG hg hl h34 h63 h45 hcd hcs hcl h42 hb hP
end Go.Proofs.YtelgjeeleofgoaaGreatDoor

/- The reader of package field: what stands behind a name; blanks skipped. -/
namespace Go.Proofs.YtelgjeeleofgoaaGreatDoor
open Go.RowKit
set_option linter.unusedSimpArgs false
set_option linter.unusedVariables false

theorem But.cell {g : Nat} {w w' : World} (h : But g w w') {b o : Nat} (hb : b < w.heap.size) (hg : b ≠ g) : w'.cell? ⟨b, o, none⟩ = w.cell? ⟨b, o, none⟩ := World.cell?_of_block (w := w) (h.block b hb hg)
theorem But.frozen {g : Nat} {w w' : World} (h : But g w w') {b o : Nat} (hb : b < w.heap.size) (hg : b ≠ g) : w'.frozen? ⟨b, o, none⟩ = w.frozen? ⟨b, o, none⟩ := World.frozen?_of_block (w := w) (h.block b hb hg)
theorem But.set_new {g : Nat} {a b : World} (h : But g a b) {k : Nat} (hk : a.heap.size ≤ k) (o : Nat) (v : Value) : But g a (b.setCell ⟨k, o, none⟩ v) :=
  ⟨h.os, h.tape, h.output, by simpa [World.setCell] using h.size, fun i hi hg => (Below.heap_setCell b ⟨k, o, none⟩ v i (by show i ≠ k; omega)).trans (h.block i hi hg)⟩
theorem Rd.far {g : Nat} {l : Bs} {bad : Bool} {w : World} (h : Rd g l bad w) {k : Nat} (hk : g ≠ k) (o : Nat) (v : Value) : Rd g l bad (w.setCell ⟨k, o, none⟩ v) := ⟨(Below.heap_setCell w ⟨k, o, none⟩ v g hk).trans h.blk⟩
theorem But.lower {g : Nat} {w : World} {o : Obj} {w' : World} (h : But g (w.alloc o) w') : But g w w' := ((But.refl g w).alloc o).trans h

/-- What stands behind a name leaves. -/
def BPost (g n : Nat) (P : Option (FM.V × Bs)) (w : World) (e : Ending) (w' : World) : Prop :=
  match P with
  | some (v, r) => e = .returned (valV v) ∧ Rd g r false w' ∧ But g w w'
  | none => Gone g n (fun x => ∃ v, x = valV v) w e w'

set_option maxHeartbeats 8000000 in
theorem behind_any (g : Nat) (l : Bs) (bad : Bool) (P : Option (FM.V × Bs)) (w : World) (h : Rd g l bad w) (hG : Glob w) (hg : GlobLt g) (hl : l.length < 4294967280) (hb : bad = true → P = none) (hP : bad = false → FM.pBehind l = P) :
    Calls Tryz.prog 95 #[.pointer (some ⟨g, 0, none⟩)] w (BPost g l.length P w) := by
  have hgl := h.lt
  have hR0 := h.alloc (.cells #[.int .i64 0, .int .i64 0, .string ⟨#[]⟩] 53)
  have hG0 : Glob (w.alloc (.cells #[.int .i64 0, .int .i64 0, .string ⟨#[]⟩] 53)) := hG.below ((Below.refl _ _).alloc (Nat.le_refl _) _)
  have hsz0 : (w.alloc (.cells #[.int .i64 0, .int .i64 0, .string ⟨#[]⟩] 53)).heap.size = w.heap.size + 1 := by simp
  have HR := Lib.hid hR0
  have HG := Lib.hid hG0
  have HZ := Lib.hid hsz0
  clear hR0 hG0 hsz0 h
  have fin : ∀ (w4 : World), But g (w.alloc (.cells #[.int .i64 0, .int .i64 0, .string ⟨#[]⟩] 53)) w4 →
      (w.heap.size < w4.heap.size ∧ w4.cell? ⟨w.heap.size, 0, none⟩ = some (.int .i64 0) ∧ w4.cell? ⟨w.heap.size, 1, none⟩ = some (.int .i64 0) ∧ w4.cell? ⟨w.heap.size, 2, none⟩ = some (.string ⟨#[]⟩) ∧
       w4.frozen? ⟨w.heap.size, 0, none⟩ = false ∧ w4.frozen? ⟨w.heap.size, 1, none⟩ = false ∧ w4.frozen? ⟨w.heap.size, 2, none⟩ = false) := fun w4 hb4 =>
    ⟨by have := hb4.size; rw [HZ.out] at this; omega, (hb4.cell (by simp) (by omega)).trans (by simp), (hb4.cell (by simp) (by omega)).trans (by simp), (hb4.cell (by simp) (by omega)).trans (by simp),
     (hb4.frozen (by simp) (by omega)).trans (by simp), (hb4.frozen (by simp) (by omega)).trans (by simp), (hb4.frozen (by simp) (by omega)).trans (by simp)⟩
  have FIN := Lib.hid fin
  clear fin
  have hne : g ≠ w.heap.size := by omega
  by_cases h61 : hd l 61 = true
  · match l, h61 with
    | c :: r, h61 =>
    have hc : (c.toNat : Int) = 61 := by simpa [hd] using h61
    obtain ⟨Q, hQ⟩ : ∃ Q, Q = P := ⟨_, rfl⟩
    have hPv : bad = false → FM.pValue r = P := fun e => by rw [← hP e]; simp [FM.pBehind, show c.toNat = 61 by omega]
    have HV := Lib.hid (fun W (hW : Rd g r bad W) hGW => value_any g r bad P W hW hGW hg (by simp at hl; omega) hb hPv)
    have HC := Lib.hid hc
    clear hb hP hPv hc h61 hQ
    go_enter Tryz.func95, Tryz.ntmps95
    go_wp2_with fail
    refine (take_yes g c r bad 61 _ HR.out (by simp at hl; omega) HC.out).mono ?_
    rintro e w1 ⟨rfl, rfl⟩
    have hR1 : Rd g r bad ((w.alloc (.cells #[.int .i64 0, .int .i64 0, .string ⟨#[]⟩] 53)).setCell ⟨g, 0, none⟩ (.string (bs r))) := HR.out.set0
    have hB1 := (But.refl g (w.alloc (.cells #[.int .i64 0, .int .i64 0, .string ⟨#[]⟩] 53))).set 0 (.string (bs r))
    have hG1 := HG.out.but hg hB1
    obtain ⟨W1, hW1⟩ : ∃ W1, (w.alloc (.cells #[.int .i64 0, .int .i64 0, .string ⟨#[]⟩] 53)).setCell ⟨g, 0, none⟩ (.string (bs r)) = W1 := ⟨_, rfl⟩
    rw [hW1] at hR1 hB1 hG1 ⊢
    clear hW1
    go_wp2_with fail
    refine (HV.out _ hR1 hG1).mono ?_
    intro e w2 hv
    cases P with
    | some p =>
      obtain ⟨v, r'⟩ := p
      obtain ⟨x, rfl, hx, hR2, hB2⟩ := hv
      go_wp2_with fail
      refine (told_any hx _).mono ?_
      rintro e w3 ⟨rfl, hB3⟩
      have hR3 := hR2.below hB3
      have hB03 := (hB1.trans hB2).trans (But.of_below hB3)
      obtain ⟨z, r0, r1, r2, f0, f1, f2⟩ := FIN.out _ hB03
      go_wp2_with fail
      refine bodyPost_ret (v := valV v) ?_ rfl ⟨rfl, ((hR3.far hne _ _).far hne _ _).far hne _ _, ((hB03.lower.set_new (Nat.le_refl _) _ _).set_new (Nat.le_refl _) _ _).set_new (Nat.le_refl _) _ _⟩
      simp [results, Tryz.results95, go_sem, r0, r1, r2]
    | none =>
      obtain ⟨x, r', rfl, ⟨v, hx⟩, hr', hR2, hB2⟩ := hv
      go_wp2_with fail
      refine (told_any hx _).mono ?_
      rintro e w3 ⟨rfl, hB3⟩
      have hR3 := hR2.below hB3
      have hB03 := (hB1.trans hB2).trans (But.of_below hB3)
      obtain ⟨z, r0, r1, r2, f0, f1, f2⟩ := FIN.out _ hB03
      go_wp2_with fail
      refine bodyPost_ret (v := valV v) ?_ rfl ⟨valV v, r', rfl, ⟨v, rfl⟩, by first | omega | (simp only [List.length_cons]; omega), ((hR3.far hne _ _).far hne _ _).far hne _ _, ((hB03.lower.set_new (Nat.le_refl _) _ _).set_new (Nat.le_refl _) _ _).set_new (Nat.le_refl _) _ _⟩
      simp [results, Tryz.results95, go_sem, r0, r1, r2]
  · have h61' : hd l 61 = false := by simpa using h61
    have hPv : P = if bad then none else some (FM.flag, l) := by
      cases bad with
      | true => exact hb rfl
      | false =>
        rw [← hP rfl]
        match l, h61' with
        | [], _ => rfl
        | c :: r, h61' =>
          have : c.toNat ≠ 61 := by intro e; simp [hd, e] at h61'
          simp [FM.pBehind, this]
    have HP := Lib.hid hPv
    have HN := Lib.hid h61'
    clear hb hP hPv h61 h61'
    go_enter Tryz.func95, Tryz.ntmps95
    go_wp2_with fail
    refine (take_no g l bad 61 _ HR.out (by omega) HN.out).mono ?_
    rintro e w1 ⟨rfl, rfl⟩
    go_wp2_with fail
    refine (told_flag1 _).mono ?_
    rintro e w3 ⟨rfl, hB3⟩
    have hR3 := HR.out.below hB3
    have hB03 := But.of_below (g := g) hB3
    obtain ⟨z, r0, r1, r2, f0, f1, f2⟩ := FIN.out _ hB03
    go_wp2_with fail
    refine bodyPost_ret (v := valV FM.flag) ?_ rfl ?_
    · simp [results, Tryz.results95, go_sem, r0, r1, r2, FM.flag]
    · rw [HP.out]
      cases bad with
      | true => exact ⟨_, l, rfl, ⟨_, rfl⟩, Nat.le_refl _, ((hR3.far hne _ _).far hne _ _).far hne _ _, ((hB03.lower.set_new (Nat.le_refl _) _ _).set_new (Nat.le_refl _) _ _).set_new (Nat.le_refl _) _ _⟩
      | false => exact ⟨rfl, ((hR3.far hne _ _).far hne _ _).far hne _ _, ((hB03.lower.set_new (Nat.le_refl _) _ _).set_new (Nat.le_refl _) _ _).set_new (Nat.le_refl _) _ _⟩

set_option maxHeartbeats 1000000 in
/-- Signs of a list skipped. -/
theorem skip_any (g : Nat) (l cs : Bs) (bad : Bool) (w : World) (h : Rd g l bad w) (hc : cs.length < 4294967281) (ha : cs.all (fun c => decide (c.toNat < 128)) = true) :
    Calls Tryz.prog 60 #[.pointer (some ⟨g, 0, none⟩), .string (bs cs)] w fun e w' => e = .returned (.tuple #[]) ∧ Rd g (l.dropWhile (cs.contains ·)) bad w' ∧ But g w w' := by
  have hT : ∀ W, Calls Tryz.prog 96 #[.string (bs l), .string (bs cs)] W fun e w' => e = .returned (.string (bs (l.dropWhile (cs.contains ·)))) ∧ Below W.heap.size W w' := fun W => by
    have := Go.Proofs.Any.strings_TrimLeft_laid Tryz.lays161x (by kernel_rfl) (bs l) (bs cs) W (by rw [bs_size]; exact hc) (by
      intro j b hj
      rw [bs_data] at hj
      have := List.all_eq_true.1 ha b (List.mem_of_getElem? hj)
      simpa using this)
    rw [bs_data, bs_data] at this
    exact this
  obtain ⟨D, hD⟩ : ∃ D, l.dropWhile (cs.contains ·) = D := ⟨_, rfl⟩
  rw [hD] at hT ⊢
  clear hD
  have HT := Lib.hid hT
  have HR := Lib.hid h
  have c0 := h.c0
  clear hT h ha hc
  go_enter Tryz.func60, Tryz.ntmps60
  go_wp2_with fail
  refine (HT.out _).mono ?_
  rintro e w1 ⟨rfl, hB⟩
  have hR1 := HR.out.below hB
  have d0 := hR1.c0
  have e0 := hR1.f0
  have HR1 := Lib.hid hR1
  clear hR1
  go_wp2_with fail
  go_end0
  exact ⟨rfl, HR1.out.set0, (But.of_below hB).set _ _⟩
end Go.Proofs.YtelgjeeleofgoaaGreatDoor

/- field.Parse, in the print's form: what it answers. -/
namespace Go.Proofs.YtelgjeeleofgoaaGreatDoor
open Go.RowKit PF
def FM.V.out (v : FM.V) : S53 := ⟨v.k, v.n, bs v.s⟩
def FM.Pm.out (p : FM.Pm) : S87 := ⟨bs p.key, p.v.out⟩
def FM.It.out (x : FM.It) : S56 := ⟨bs x.key, x.v.out, x.ps.map FM.Pm.out⟩
def field_Parse.f (s : ByteArray) : Option (List S56 × Bool) :=
  if s.data.toList.length < 1073741824 then
    match FM.pParse s.data.toList with
    | some l => some (l.map FM.It.out, true)
    | none => some ([], false)
  else none
end Go.Proofs.YtelgjeeleofgoaaGreatDoor

/- The reader of package field: an item. -/
namespace Go.Proofs.YtelgjeeleofgoaaGreatDoor
open Go.RowKit Go.Proofs.YtelgjeeleofgoaaGreatDoorW.PrintWords PF
set_option linter.unusedSimpArgs false
set_option linter.unusedVariables false

/-- A block of one value's cells. -/
structure Box (b t : Nat) (cs : Array Value) (w : World) : Prop where
  blk : w.heap[b]? = some (.cells cs t (0, 0))
theorem Box.lt {b t : Nat} {cs : Array Value} {w : World} (h : Box b t cs w) : b < w.heap.size := by
  rcases Nat.lt_or_ge b w.heap.size with h' | h'
  · exact h'
  · have := h.blk; rw [Array.getElem?_eq_none h'] at this; cases this
theorem Box.cell {b t : Nat} {cs : Array Value} {w : World} (h : Box b t cs w) (i : Nat) : w.cell? ⟨b, i, none⟩ = cs[i]? := by
  simp [World.cell?, h.blk]
theorem Box.frozen {b t : Nat} {cs : Array Value} {w : World} (h : Box b t cs w) (i : Nat) : w.frozen? ⟨b, i, none⟩ = false := by
  simp [World.frozen?, h.blk]
theorem Box.set {b t : Nat} {cs : Array Value} {w : World} (h : Box b t cs w) (i : Nat) (v : Value) : Box b t (cs.setIfInBounds i v) (w.setCell ⟨b, i, none⟩ v) := by
  refine ⟨?_⟩
  unfold World.setCell
  simp only [Array.getElem?_modify, if_pos rfl, h.blk]
  rfl
theorem Box.far {b t k : Nat} {cs : Array Value} {w : World} (h : Box b t cs w) (hk : b ≠ k) (o : Nat) (v : Value) : Box b t cs (w.setCell ⟨k, o, none⟩ v) := ⟨(Below.heap_setCell w ⟨k, o, none⟩ v b hk).trans h.blk⟩
theorem Box.but {b t g : Nat} {cs : Array Value} {w w' : World} (h : Box b t cs w) (hb : But g w w') (hg : b ≠ g) : Box b t cs w' := ⟨(hb.block b h.lt hg).trans h.blk⟩
theorem Box.below {b t : Nat} {cs : Array Value} {w w' : World} (h : Box b t cs w) (hb : Below w.heap.size w w') : Box b t cs w' := ⟨(hb.block b h.lt).trans h.blk⟩
theorem Box.alloc {b t : Nat} {cs : Array Value} {w : World} (h : Box b t cs w) (o : Obj) : Box b t cs (w.alloc o) := h.below ((Below.refl _ _).alloc (Nat.le_refl _) o)
theorem Box.drew {b t : Nat} {cs : Array Value} {w : World} (h : Box b t cs w) : Box b t cs w.drew := ⟨h.blk⟩
theorem Box.grown {b t : Nat} {cs : Array Value} {w w' : World} {row : Option Nat} (h : Box b t cs w) (hg : w.grownBy w' row) (hne : row ≠ some b) : Box b t cs w' := ⟨(hg.block b h.lt (Ne.symm hne)).trans h.blk⟩
theorem Box.new (w : World) (t : Nat) (cs : Array Value) : Box w.heap.size t cs (w.alloc (.cells cs t)) := ⟨by simpa using heap_alloc_new w _⟩
theorem own_but {g : Nat} {w w' : World} {base n : Nat} {e : TypeId} {size : Nat} {v : Value} {xs : List Value} (h : w.ownsRow base e size v n xs) (hb : But g w w') (hg : g < base) : w'.ownsRow base e size v n xs :=
  own_move h fun k hk => hb.block k (own_lt h k hk) (fun e => by have := own_ge h k hk; omega)

def pmCells (p : FM.Pm) : List Value := [.string (bs p.key), .int .i64 p.v.k, .int .i64 p.v.n, .string (bs p.v.s)]
def pmsCells (ps : List FM.Pm) : List Value := ps.flatMap pmCells
theorem pms_snoc (ps : List FM.Pm) (p : FM.Pm) : pmsCells (ps ++ [p]) = pmsCells ps ++ pmCells p := by simp [pmsCells]
theorem pms_reps (w : World) (base : Nat) (ok : Nat → Prop) : ∀ (n : Nat) (ps : List FM.Pm), ps.length = n → Reps (k87.M w base ok) 4 (ps.map FM.Pm.out) (pmsCells ps)
  | 0, ps, h => by
    obtain rfl := List.length_eq_zero_iff.1 h
    exact Reps.none _ _
  | n + 1, ps, h => by
    rcases List.eq_nil_or_concat ps with rfl | ⟨qs, p, rfl⟩
    · simp at h
    · rw [List.concat_eq_append] at *
      rw [pms_snoc, List.map_append]
      exact (pms_reps w base ok n qs (by simpa using h)).snoc (k87_mkM w base ok p.out) rfl
theorem pms_row {w : World} {base : Nat} {v : Value} {ps : List FM.Pm} (h : w.ownsRow base 87 4 v ps.length (pmsCells ps)) : Kd.R k87 87 w base (fun _ => True) v (ps.map FM.Pm.out) :=
  ⟨fun _ _ => trivial, pmsCells ps, by rw [List.length_map]; exact h, pms_reps _ _ _ _ _ rfl⟩

/-- The three calls, told in one form each: good or bad. -/
def KAll (g n : Nat) (Q : Option (Bs × Bs)) (w : World) (e : Ending) (w' : World) : Prop :=
  ∃ k r b, e = .returned (.string (bs k)) ∧ Rd g r b w' ∧ But g w w' ∧ r.length ≤ n ∧ (b = false → Q = some (k, r)) ∧ (b = true → Q = none)
def BAll (g n : Nat) (Q : Option (FM.V × Bs)) (w : World) (e : Ending) (w' : World) : Prop :=
  ∃ v r b, e = .returned (valV v) ∧ Rd g r b w' ∧ But g w w' ∧ r.length ≤ n ∧ (b = false → Q = some (v, r)) ∧ (b = true → Q = none)
theorem key_all (g : Nat) (l : Bs) (bad : Bool) (w : World) (h : Rd g l bad w) (hl : l.length < 4294967280) :
    Calls Tryz.prog 94 #[.pointer (some ⟨g, 0, none⟩)] w (KAll g l.length (if bad then none else FM.pKey l) w) := by
  by_cases hk : bad = true ∨ FM.pKey l = none
  · refine (key_no g l bad w h (by omega) hk).mono ?_
    rintro e w' ⟨v, r, rfl, ⟨k, rfl⟩, hr, hR, hB⟩
    refine ⟨k, r, true, rfl, hR, hB, hr, (fun e => by cases e), fun _ => ?_⟩
    rcases hk with rfl | hk
    · rfl
    · rw [hk]; simp
  · have hbf : bad = false := by cases bad with
      | true => exact absurd (.inl rfl) hk
      | false => rfl
    subst hbf
    obtain ⟨⟨k, r⟩, hkr⟩ := Option.ne_none_iff_exists'.1 (fun e => hk (.inr e))
    refine (key_yes g l k r w h (by omega) hkr).mono ?_
    rintro e w' ⟨rfl, hR, hB⟩
    exact ⟨k, r, false, rfl, hR, hB, (FM.pKey_le hkr).1, fun _ => by simpa using hkr, fun e => by cases e⟩
theorem behind_all (g : Nat) (l : Bs) (bad : Bool) (w : World) (h : Rd g l bad w) (hG : Glob w) (hg : GlobLt g) (hl : l.length < 4294967280) :
    Calls Tryz.prog 95 #[.pointer (some ⟨g, 0, none⟩)] w (BAll g l.length (if bad then none else FM.pBehind l) w) := by
  obtain ⟨Q, hQ⟩ : ∃ Q, (if bad then none else FM.pBehind l) = Q := ⟨_, rfl⟩
  rw [hQ]
  refine (behind_any g l bad Q w h hG hg hl (fun e => by subst e; exact hQ.symm) (fun e => by subst e; exact hQ)).mono ?_
  intro e w' hp
  cases Q with
  | some q =>
    obtain ⟨rfl, hR, hB⟩ := hp
    refine ⟨q.1, q.2, false, rfl, hR, hB, ?_, fun _ => rfl, fun e => by cases e⟩
    cases bad with
    | true => cases hQ
    | false => exact FM.pBehind_le (v := q.1) (by simpa using hQ)
  | none =>
    obtain ⟨x, r, rfl, ⟨v, rfl⟩, hr, hR, hB⟩ := hp
    exact ⟨v, r, true, rfl, hR, hB, hr, (fun e => by cases e), fun _ => rfl⟩
theorem quoted_all (g : Nat) (l : Bs) (w : World) (h : Rd g l false w) (hl : l.length < 4294967280) :
    Calls Tryz.prog 92 #[.pointer (some ⟨g, 0, none⟩)] w (KAll g l.length (FM.pQuoted (l.length + 1) [] l) w) := by
  obtain ⟨Q, hQ⟩ : ∃ Q, FM.pQuoted (l.length + 1) [] l = Q := ⟨_, rfl⟩
  rw [hQ]
  refine (quoted_any g l false Q w h hl (fun e => by cases e) (fun _ => hQ)).mono ?_
  intro e w' hp
  cases Q with
  | some q =>
    obtain ⟨rfl, hR, hB⟩ := hp
    exact ⟨q.1, q.2, false, rfl, hR, hB, Nat.le_of_lt (FM.pQuoted_le _ _ _ _ _ hQ).1, fun _ => rfl, fun e => by cases e⟩
  | none =>
    obtain ⟨x, r, rfl, ⟨k, rfl⟩, hr, hR, hB⟩ := hp
    exact ⟨k, r, true, rfl, hR, hB, hr, (fun e => by cases e), fun _ => rfl⟩
end Go.Proofs.YtelgjeeleofgoaaGreatDoor

/- The reader of package field: an item, whole. -/
namespace Go.Proofs.YtelgjeeleofgoaaGreatDoor
open Go.RowKit Go.Proofs.YtelgjeeleofgoaaGreatDoorW.PrintWords PF
set_option linter.unusedSimpArgs false
set_option linter.unusedVariables false

def itV (key : Bs) (v : FM.V) (vp : Value) : Value := .agg #[.string (bs key), .int .i64 v.k, .int .i64 v.n, .string (bs v.s), vp]
def itCells (key : Bs) (v : FM.V) (vp : Value) : Array Value := #[.string (bs key), .int .i64 v.k, .int .i64 v.n, .string (bs v.s), vp]
def itZero : Array Value := #[.string ⟨#[]⟩, .int .i64 0, .int .i64 0, .string ⟨#[]⟩, .slice none 0 0]
theorem bs_nil : (⟨#[]⟩ : ByteArray) = bs [] := rfl
/-- What an item leaves. -/
def IAll (g n : Nat) (Q : Option (FM.It × Bs)) (w : World) (e : Ending) (w' : World) : Prop :=
  ∃ x vp r b, e = .returned (itV x.key x.v vp) ∧ Kd.R k87 87 w' w.heap.size (fun _ => True) vp (x.ps.map FM.Pm.out) ∧ Rd g r b w' ∧ But g w w' ∧ r.length ≤ n ∧
    (b = false → Q = some (x, r)) ∧ (b = true → Q = none)
/-- Behind the head. -/
def IHead (g : Nat) (l : Bs) (Q : Option (FM.It × Bs)) (w wc : World) : Prop :=
  ∃ key v l1 b, Box w.heap.size 56 itZero wc ∧ Box (w.heap.size + 1) 56 (itCells key v (.slice none 0 0)) wc ∧ Rd g l1 b wc ∧ But g w wc ∧ w.heap.size + 2 ≤ wc.heap.size ∧ l1.length ≤ l.length ∧
    (b = true → Q = none) ∧ (b = false → (FM.pParams (l1.length + 1) l1).map (fun x => (⟨key, v, x.1⟩, x.2)) = Q)
/-- At the head of a round. -/
def IRel (g : Nat) (l : Bs) (Q : Option (FM.It × Bs)) (w : World) (f : Nat) (wr : World) : Prop :=
  ∃ key v ps vp l1 b, Box w.heap.size 56 itZero wr ∧ Box (w.heap.size + 1) 56 (itCells key v vp) wr ∧ wr.ownsRow (w.heap.size + 2) 87 4 vp ps.length (pmsCells ps) ∧ Rd g l1 b wr ∧ But g w wr ∧
    w.heap.size + 2 ≤ wr.heap.size ∧ ps.length + l1.length ≤ l.length ∧
    (b = true → Q = none) ∧ (b = false → l1.length < f ∧ (FM.pParams f l1).map (fun x => (⟨key, v, ps ++ x.1⟩, x.2)) = Q)

theorem pHead_key (l : Bs) (h : hd l 34 = false) : FM.pHead l = (FM.pKey l).bind fun x => (FM.pBehind x.2).map fun y => (x.1, y.1, y.2) := by
  match l, h with
  | [], _ => rfl
  | c :: r, h =>
    have hc : c.toNat ≠ 34 := by intro e; simp [hd, e] at h
    simp only [FM.pHead]
    rw [if_neg hc]
    cases FM.pKey (c :: r) with
    | none => rfl
    | some x => rfl
theorem arr5 (x0 x1 x2 x3 x4 : Value) : (((((itZero.setIfInBounds 0 x0).setIfInBounds 1 x1).setIfInBounds 2 x2).setIfInBounds 3 x3).setIfInBounds 4 x4) = #[x0, x1, x2, x3, x4] := by
  simp [itZero]
theorem box5 {b : Nat} {w : World} (h : Box b 56 itZero w) (x0 x1 x2 x3 x4 : Value) :
    Box b 56 #[x0, x1, x2, x3, x4] (((((w.setCell ⟨b, 0, none⟩ x0).setCell ⟨b, 1, none⟩ x1).setCell ⟨b, 2, none⟩ x2).setCell ⟨b, 3, none⟩ x3).setCell ⟨b, 4, none⟩ x4) := by
  have := ((((h.set 0 x0).set 1 x1).set 2 x2).set 3 x3).set 4 x4
  rw [arr5] at this
  exact this
theorem But.set5 {g : Nat} {a b : World} (h : But g a b) {k : Nat} (hk : a.heap.size ≤ k) (x0 x1 x2 x3 x4 : Value) :
    But g a (((((b.setCell ⟨k, 0, none⟩ x0).setCell ⟨k, 1, none⟩ x1).setCell ⟨k, 2, none⟩ x2).setCell ⟨k, 3, none⟩ x3).setCell ⟨k, 4, none⟩ x4) :=
  ((((h.set_new hk 0 x0).set_new hk 1 x1).set_new hk 2 x2).set_new hk 3 x3).set_new hk 4 x4
theorem it_cell4 {b t : Nat} {w : World} {key : Bs} {v : FM.V} {vp : Value} (h : Box b t (itCells key v vp) w) : w.cell? ⟨b, 4, none⟩ = some vp := by
  have := h.cell 4
  simpa [itCells] using this
theorem size_set (w : World) (a : Addr) (v : Value) : (w.setCell a v).heap.size = w.heap.size := by simp [World.setCell]
set_option maxHeartbeats 16000000 in
set_option maxRecDepth 100000 in
theorem item_all (g : Nat) (l : Bs) (w : World) (h : Rd g l false w) (hG : Glob w) (hg : GlobLt g) (hl : l.length < 1073741824) :
    Calls Tryz.prog 59 #[.pointer (some ⟨g, 0, none⟩)] w (IAll g l.length (FM.pItem l) w) := by
  obtain ⟨Q, hQ⟩ : ∃ Q, FM.pItem l = Q := ⟨_, rfl⟩
  rw [hQ]
  have hgl := h.lt
  have HQ := Lib.hid hQ
  clear hQ
  have hR0 := (h.alloc (.cells itZero 56)).alloc (.cells itZero 56)
  have hX0 : Box w.heap.size 56 itZero ((w.alloc (.cells itZero 56)).alloc (.cells itZero 56)) := (Box.new w _ _).alloc _
  have hY0 : Box (w.heap.size + 1) 56 itZero ((w.alloc (.cells itZero 56)).alloc (.cells itZero 56)) := by
    have := Box.new (w.alloc (.cells itZero 56)) 56 itZero
    simpa using this
  have hB0 : But g w ((w.alloc (.cells itZero 56)).alloc (.cells itZero 56)) := ((But.refl g w).alloc _).alloc _
  have hZ0 : w.heap.size + 2 ≤ ((w.alloc (.cells itZero 56)).alloc (.cells itZero 56)).heap.size := by simp
  unfold itZero at hR0 hX0 hY0 hB0 hZ0
  have H0 := Lib.hid (And.intro hR0 (And.intro hX0 (And.intro hY0 (And.intro hB0 hZ0))))
  clear hR0 hX0 hY0 hB0 hZ0 h
  have hu1 := Tryz.underlying56
  have hu2 := Tryz.underlying53
  have hu3 := Tryz.underlying87
  have hmf : ∀ (fn : Fn) (first cap : Array Value) (w : World), (Instr.makeFunc fn first cap).run Tryz.prog w = .ok (.func fn first cap) w := fun _ _ _ _ => rfl
  obtain ⟨i0, hi, hz0, hz1, hz2⟩ := info_parts (show (Tryz.prog.info? 87).map (fun i => (i.zero, i.size, i.bytes)) = some (some (.agg #[(.string ⟨#[]⟩), (.int .i64 0), (.int .i64 0), (.string ⟨#[]⟩)]), 4, 48) from info87)
  go_enter Tryz.func59, Tryz.ntmps59
  go_upto_if 8 with (go_at_call 61; refine (take_any g l false 34 _ H0.out.1 (by omega)).mono ?_; rintro e w1 ⟨rfl, hR1, hB1⟩)
  go_cut [] (fun wc => IHead g l Q w wc)
  case first =>
    have hX1 := H0.out.2.1.but hB1 (by omega)
    have hY1 := H0.out.2.2.1.but hB1 (by omega)
    have hB := H0.out.2.2.2.1.trans hB1
    have hZ := Nat.le_trans H0.out.2.2.2.2 hB1.size
    have hG1 := hG.but hg hB
    clear H0 hB1
    cases hh : hd l 34 with
    | true =>
      match l, hh with
      | c :: r, hh =>
      have hc : c.toNat = 34 := by have : ((c.toNat : Int) == 34) = true := hh; have := beq_iff_eq.1 this; omega
      have ht : tl (c :: r) 34 = r := by simp [tl, hh]
      rw [ht] at hR1
      clear hh ht
      have HC := Lib.hid hc
      clear hc
      go_wp2_with fail
      refine (quoted_all g r _ hR1 (by simp at hl; omega)).mono ?_
      rintro e w2 ⟨k, r2, b2, rfl, hR2, hB2, hr2, hq1, hq2⟩
      go_wp2_with fail
      refine (told_flag1 _).mono ?_
      rintro e w3 ⟨rfl, hB3⟩
      have hX3 := (hX1.but hB2 (by omega)).below hB3
      have hY3 := (hY1.but hB2 (by omega)).below hB3
      have hR3 := hR2.below hB3
      have hB4 := (hB.trans hB2).trans (But.of_below hB3)
      have hZ3 := Nat.le_trans (Nat.le_trans hZ hB2.size) hB3.size
      have y0 := hY3.cell 0
      have y1 := hY3.cell 1
      have y2 := hY3.cell 2
      have y3 := hY3.cell 3
      have y4 := hY3.cell 4
      have z0 := hY3.frozen 0
      have z1 := hY3.frozen 1
      have z2 := hY3.frozen 2
      have z3 := hY3.frozen 3
      have z4 := hY3.frozen 4
      simp only [List.getElem?_toArray, List.getElem?_cons_zero, List.getElem?_cons_succ] at y0 y1 y2 y3 y4
      have HX := Lib.hid hX3
      have HY := Lib.hid hY3
      have HR := Lib.hid hR3
      have HB := Lib.hid hB4
      have Hq1 := Lib.hid hq1
      have Hq2 := Lib.hid hq2
      clear hX3 hY3 hR3 hB4 hX1 hY1 hB hB2 hB3 hR1 hR2 hG1 hq1 hq2
      go_wp2_with fail
      go_meet
      refine ⟨k, FM.flag, r2, b2, ?_, box5 HY.out _ _ _ _ _, ?_, HB.out.set5 (by omega) _ _ _ _ _, by simp only [size_set]; exact hZ3, by simp only [List.length_cons]; omega, ?_, ?_⟩
      · exact ((((HX.out.far (by omega) _ _).far (by omega) _ _).far (by omega) _ _).far (by omega) _ _).far (by omega) _ _
      · exact ((((HR.out.far (by omega) _ _).far (by omega) _ _).far (by omega) _ _).far (by omega) _ _).far (by omega) _ _
      · intro e
        rw [← HQ.out]
        simp [FM.pItem, FM.pHead, HC.out, Hq2.out e]
      · intro e
        rw [← HQ.out]
        simp [FM.pItem, FM.pHead, HC.out, Hq1.out e]
    | false =>
      have ht : tl l 34 = l := by simp [tl, hh]
      rw [ht] at hR1
      have hph := pHead_key l hh
      have HP := Lib.hid hph
      clear ht hh hph
      go_wp2_with fail
      refine (key_all g l false _ hR1 (by omega)).mono ?_
      rintro e w2 ⟨k, r2, b2, rfl, hR2, hB2, hr2, hq1, hq2⟩
      have hX2 := hX1.but hB2 (by omega)
      have hY2 := hY1.but hB2 (by omega)
      have hB3 := hB.trans hB2
      have hZ2 := Nat.le_trans hZ hB2.size
      have y0 := hY2.cell 0
      have z0 := hY2.frozen 0
      simp only [List.getElem?_toArray, List.getElem?_cons_zero, List.getElem?_cons_succ] at y0
      have hX3 := hX2.far (k := w.heap.size + 1) (by omega) 0 (.string (bs k))
      have hY3 := hY2.set 0 (.string (bs k))
      have hR3 := hR2.far (k := w.heap.size + 1) (by omega) 0 (.string (bs k))
      have hB4 := hB3.set_new (k := w.heap.size + 1) (by omega) 0 (.string (bs k))
      have hZ3 : w.heap.size + 2 ≤ (w2.setCell ⟨w.heap.size + 1, 0, none⟩ (.string (bs k))).heap.size := by rw [size_set]; exact hZ2
      have hG3 := hG.but hg hB4
      have Hq1 := Lib.hid hq1
      have Hq2 := Lib.hid hq2
      clear hX2 hY2 hR2 hB3 hX1 hY1 hB hB2 hR1 hG1 hq1 hq2 hZ hZ2
      go_wp2_with fail
      obtain ⟨W3, hW3⟩ : ∃ W3, w2.setCell ⟨w.heap.size + 1, 0, none⟩ (.string (bs k)) = W3 := ⟨_, rfl⟩
      rw [hW3] at hX3 hY3 hR3 hB4 hZ3 hG3 ⊢
      clear hW3 y0 z0
      refine (behind_all g r2 b2 _ hR3 hG3 hg (by omega)).mono ?_
      rintro e w4 ⟨v, r3, b3, rfl, hR4, hB5, hr3, hp1, hp2⟩
      have hX5 := hX3.but hB5 (by omega)
      have hY5 := hY3.but hB5 (by omega)
      have hB6 := hB4.trans hB5
      have hZ5 := Nat.le_trans hZ3 hB5.size
      have y1 := hY5.cell 1
      have y2 := hY5.cell 2
      have y3 := hY5.cell 3
      have z1 := hY5.frozen 1
      have z2 := hY5.frozen 2
      have z3 := hY5.frozen 3
      simp at y1 y2 y3
      have HX := Lib.hid hX5
      have HY := Lib.hid hY5
      have HR := Lib.hid hR4
      have HB := Lib.hid hB6
      have Hp1 := Lib.hid hp1
      have Hp2 := Lib.hid hp2
      clear hX5 hY5 hR4 hB6 hX3 hY3 hR3 hB4 hB5 hG3 hp1 hp2
      go_wp2_with fail
      go_meet
      refine ⟨k, v, r3, b3, ((HX.out.far (by omega) _ _).far (by omega) _ _).far (by omega) _ _, ?_, ((HR.out.far (by omega) _ _).far (by omega) _ _).far (by omega) _ _, ((HB.out.set_new (by omega) _ _).set_new (by omega) _ _).set_new (by omega) _ _, by simp only [size_set]; exact hZ5, by omega, ?_, ?_⟩
      · exact ((HY.out.set 1 _).set 2 _).set 3 _
      · intro e
        have h2 := Hp2.out e
        rw [← HQ.out]
        unfold FM.pItem
        rw [HP.out]
        cases b2 with
        | true => have := Hq2.out rfl; simp at this; simp [this]
        | false => have h1 := Hq1.out rfl; simp at h1 h2; simp [h1, h2]
      · intro e
        have h2 := Hp1.out e
        rw [← HQ.out]
        unfold FM.pItem
        rw [HP.out]
        cases b2 with
        | true => simp at h2
        | false => have h1 := Hq1.out rfl; simp at h1 h2; simp [h1, h2]
  case rest =>
    clear H0 hR1 hB1 HQ
    obtain ⟨key, v, l1, b, hX, hY, hR, hB, hZ, hl1, hq1, hq2⟩ := hcut
    have hstart : IRel g l Q w (l1.length + 1) wc := ⟨key, v, [], .slice none 0 0, l1, b, hX, hY, World.ownsRow_nil _ _ _ _, hR, hB, hZ, by simpa using hl1, hq1, fun e => ⟨by omega, by simpa using hq2 e⟩⟩
    have HST := Lib.hid hstart
    clear hX hY hR hB hq1 hq2 hstart
    go_wp2_with fail
    go_loopg [] (l1.length + 1) (fun f wr => IRel g l Q w f wr)
    case atStart => exact HST.out
    case round =>
      clear HST hZ hl1
      obtain ⟨key, v, ps, vp, l1, b, hX, hY, hO, hR, hB, hZ, hlen, hq1, hq2⟩ := hrel
      obtain ⟨AA, cap, rfl⟩ := own_slice hO
      have c1 := hR.c1
      have y0 := hY.cell 0
      have y1 := hY.cell 1
      have y2 := hY.cell 2
      have y3 := hY.cell 3
      have y4 := hY.cell 4
      have x0 := hX.cell 0
      have x1 := hX.cell 1
      have x2 := hX.cell 2
      have x3 := hX.cell 3
      have x4 := hX.cell 4
      have z0 := hX.frozen 0
      have z1 := hX.frozen 1
      have z2 := hX.frozen 2
      have z3 := hX.frozen 3
      have z4 := hX.frozen 4
      simp [itCells, itZero] at y0 y1 y2 y3 y4 x0 x1 x2 x3 x4
      have hend : ∀ b', Rd g l1 b' wr → (b' = false → Q = some (⟨key, v, ps⟩, l1)) → (b' = true → Q = none) →
          IAll g l.length Q w (.returned (itV key v (.slice AA ps.length cap))) (((((wr.setCell ⟨w.heap.size, 0, none⟩ (.string (bs key))).setCell ⟨w.heap.size, 1, none⟩ (.int .i64 v.k)).setCell ⟨w.heap.size, 2, none⟩ (.int .i64 v.n)).setCell ⟨w.heap.size, 3, none⟩ (.string (bs v.s))).setCell ⟨w.heap.size, 4, none⟩ (.slice AA ps.length cap)) := by
        intro b' hR' h1 h2
        have hO5 := ownsRow_setCell_below (a := ⟨w.heap.size, 4, none⟩) (ownsRow_setCell_below (a := ⟨w.heap.size, 3, none⟩) (ownsRow_setCell_below (a := ⟨w.heap.size, 2, none⟩) (ownsRow_setCell_below (a := ⟨w.heap.size, 1, none⟩) (ownsRow_setCell_below (a := ⟨w.heap.size, 0, none⟩) hO (by show w.heap.size < _; omega) (.string (bs key))) (by show w.heap.size < _; omega) (.int .i64 v.k)) (by show w.heap.size < _; omega) (.int .i64 v.n)) (by show w.heap.size < _; omega) (.string (bs v.s))) (by show w.heap.size < _; omega) (.slice AA ps.length cap)
        exact ⟨⟨key, v, ps⟩, _, l1, b', rfl, Kd.R_lower (pms_row hO5) (by omega), ((((hR'.far (by omega) _ _).far (by omega) _ _).far (by omega) _ _).far (by omega) _ _).far (by omega) _ _, hB.set5 (Nat.le_refl _) _ _ _ _ _, by omega, h1, h2⟩
      cases b with
      | true =>
        have hfin := hend true hR (fun e => by cases e) hq1
        have HF := Lib.hid hfin
        clear hend hfin hX hY hO hR hB hq1 hq2
        go_wp2_with fail
        refine bodyPost_ret (v := itV key v (.slice AA ps.length cap)) ?_ rfl HF.out
        simp [results, Tryz.results59, go_sem, itV, x0, x1, x2, x3, x4]
      | false =>
        obtain ⟨hlt, hq2⟩ := hq2 rfl
        clear hq1
        cases gk with
        | zero => omega
        | succ f =>
        cases hh : hd l1 59 with
        | false =>
          have hpp : FM.pParams (f + 1) l1 = some ([], l1) := by
            match l1, hh with
            | [], _ => rfl
            | c :: r, hh =>
              have hc : c.toNat ≠ 59 := by intro e; simp [hd, e] at hh
              simp only [FM.pParams]
              rw [if_neg hc]
          rw [hpp] at hq2
          simp at hq2
          have hfin := hend false hR (fun _ => hq2.symm) (fun e => by cases e)
          have HF := Lib.hid hfin
          have HR := Lib.hid hR
          have HN := Lib.hid hh
          clear hend hfin hX hY hO hR hB hq2 hpp hh
          go_wp2_with fail
          refine (take_no g l1 false 59 _ HR.out (by omega) HN.out).mono ?_
          rintro e w' ⟨rfl, rfl⟩
          go_wp2_with fail
          refine bodyPost_ret (v := itV key v (.slice AA ps.length cap)) ?_ rfl HF.out
          simp [results, Tryz.results59, go_sem, itV, x0, x1, x2, x3, x4]
        | true =>
          match l1, hh with
          | c :: r, hh =>
          have hc : c.toNat = 59 := by have : ((c.toNat : Int) == 59) = true := hh; have := beq_iff_eq.1 this; omega
          have hpp : FM.pParams (f + 1) (c :: r) = (match FM.pKey (r.dropWhile FM.blank) with
              | none => none
              | some (k, l2) => match FM.pBehind l2 with
                | none => none
                | some (v, l3) => (FM.pParams f l3).map fun x => (⟨k, v⟩ :: x.1, x.2)) := by
            simp only [FM.pParams]
            rw [if_pos hc]
            rfl
          rw [hpp] at hq2
          have HY59 := Lib.hid (show (c.toNat : Int) = 59 by omega)
          have Hq := Lib.hid hq2
          have HX := Lib.hid hX
          have HY := Lib.hid hY
          have HO := Lib.hid hO
          have HR := Lib.hid hR
          have HB := Lib.hid hB
          have hd1 := FM.dropWhile_le FM.blank r
          simp only [List.length_cons] at hlen hlt
          clear hend hX hY hO hR hB hq2 hpp hh hc c1 x0 x1 x2 x3 x4 y0 y1 y2 y3 y4 z0 z1 z2 z3 z4
          have c1 := HR.out.c1
          go_wp2_with fail
          refine (take_yes g c r false 59 _ HR.out (by omega) HY59.out).mono ?_
          rintro e w' ⟨rfl, rfl⟩
          have hR1 : Rd g r false (wr.setCell ⟨g, 0, none⟩ (.string (bs r))) := HR.out.set0
          have hX1 := HX.out.far (k := g) (by omega) 0 (.string (bs r))
          have hY1 := HY.out.far (k := g) (by omega) 0 (.string (bs r))
          have hO1 := ownsRow_setCell_below (a := ⟨g, 0, none⟩) HO.out (by show g < _; omega) (.string (bs r))
          have hB1 := HB.out.set 0 (.string (bs r))
          have hZ1 : w.heap.size + 2 ≤ (wr.setCell ⟨g, 0, none⟩ (.string (bs r))).heap.size := by rw [size_set]; exact hZ
          obtain ⟨W1, hW1⟩ : ∃ W1, wr.setCell ⟨g, 0, none⟩ (.string (bs r)) = W1 := ⟨_, rfl⟩
          rw [hW1] at hR1 hX1 hY1 hO1 hB1 hZ1 ⊢
          clear hW1 HR HX HY HO HB hZ c1
          go_wp2_with fail
          refine (skip_any g r [32] false _ hR1 (by simp) (by decide)).mono ?_
          rintro e W2 ⟨rfl, hR2, hS2⟩
          have hX2 := hX1.but hS2 (by omega)
          have hY2 := hY1.but hS2 (by omega)
          have hO2 := own_but hO1 hS2 (by omega)
          have hB2 := hB1.trans hS2
          have hZ2 := Nat.le_trans hZ1 hS2.size
          have hR2' : Rd g (r.dropWhile FM.blank) false W2 := hR2
          clear hR1 hX1 hY1 hO1 hB1 hZ1 hS2 hR2
          go_wp2_with fail
          refine (key_all g _ false _ hR2' (by omega)).mono ?_
          rintro e W3 ⟨k, r3, b3, rfl, hR3, hS3, hr3, hk1, hk2⟩
          have hX3 := hX2.but hS3 (by omega)
          have hY3 := hY2.but hS3 (by omega)
          have hO3 := own_but hO2 hS3 (by omega)
          have hB3 := hB2.trans hS3
          have hZ3 := Nat.le_trans hZ2 hS3.size
          have hG3 := hG.but hg hB3
          have HX := Lib.hid hX3
          have HY := Lib.hid hY3
          have HO := Lib.hid hO3
          have HR := Lib.hid hR3
          have HB := Lib.hid hB3
          have HG := Lib.hid hG3
          have Hk1 := Lib.hid hk1
          have Hk2 := Lib.hid hk2
          have y4 := HY.out.cell 4
          simp [itCells] at y4
          have z4 := HY.out.frozen 4
          clear hX2 hY2 hO2 hB2 hZ2 hR2' hS3 hX3 hY3 hO3 hR3 hB3 hG3 hk1 hk2
          have hl63 : ps.length + 1 ≤ maxLen := by unfold maxLen; omega
          have hl47 : (ps.length + 1) * 48 ≤ 140737488355328 := by omega
          go_upto_region 10 with (fail)
          go_region_law (first | (refine step_append_lies _ (by rfl) _ _ _ (by rfl) (w.heap.size + 2) 87 i0 _ 4 48 Tryz.underlying54 hi hz0 hz1 hz2 rfl (by omega) (.slice AA ps.length cap) ps.length (pmsCells ps) (by rfl) (HO5.out.alloc _) ⟨W5.heap.size, 0, none⟩ 1 1 [.string (bs k), .int .i64 v2.k, .int .i64 v2.n, .string (bs v2.s)] (by rfl) (by rfl) (World.news_of_block (cs := #[.string (bs k), .int .i64 v2.k, .int .i64 v2.n, .string (bs v2.s)]) (t := 87) (fr := (0, 0)) (heap_alloc_new W5 _)) (by simp [Value.oneCell']) (by omega) hl63 hl47 (by simp; omega) (W5.heap.size + 1) (by simp) ?_; intro gg cap1 W7 hown1 hgrow hat hltg; have hX7 := (HX5.out.alloc (.cells #[.string (bs k), .int .i64 v2.k, .int .i64 v2.n, .string (bs v2.s)] 87)).grown hgrow (own_ne HO5.out (by omega)); have hY7 := (HY5.out.alloc (.cells #[.string (bs k), .int .i64 v2.k, .int .i64 v2.n, .string (bs v2.s)] 87)).grown hgrow (own_ne HO5.out (by omega)); have hR7 := (HR5.out.alloc (.cells #[.string (bs k), .int .i64 v2.k, .int .i64 v2.n, .string (bs v2.s)] 87)).grown hgrow (own_ne HO5.out (by omega)); have hB7 := (HB5.out.alloc (.cells #[.string (bs k), .int .i64 v2.k, .int .i64 v2.n, .string (bs v2.s)] 87)).step hgrow (Nat.le_refl _) (fun k hk => Nat.le_trans (by omega) (own_ge HO5.out k hk)); have hZ7 := hgrow.size; have y7 := it_cell4 hY7; have z7 := hY7.frozen 4) | (go_simp; go_at_call 95; refine (behind_all g r3 b3 _ HR.out.drew (HG.out.below (Below.refl _ _).drew) hg (by omega)).mono ?_; rintro e W5 ⟨v2, r5, b5, rfl, hR5, hS5, hr5, hp1, hp2⟩; have hX5 := HX.out.drew.but hS5 (by omega); have hY5 := HY.out.drew.but hS5 (by omega); have hO5 := own_but (World.ownsRow.drew HO.out) hS5 (by omega); have hB5 := HB.out.drew.trans hS5; have hZ5 : w.heap.size + 2 ≤ W5.heap.size := Nat.le_trans hZ3 hS5.size; have y5 := it_cell4 hY5; have z5 := hY5.frozen 4; have y5a := it_cell4 (hY5.alloc (.cells #[.string (bs k), .int .i64 v2.k, .int .i64 v2.n, .string (bs v2.s)] 87)); have z5a := (hY5.alloc (.cells #[.string (bs k), .int .i64 v2.k, .int .i64 v2.n, .string (bs v2.s)] 87)).frozen 4; have HX5 := Lib.hid hX5; have HY5 := Lib.hid hY5; have HO5 := Lib.hid hO5; have HR5 := Lib.hid hR5; have HB5 := Lib.hid hB5; have Hp1 := Lib.hid hp1; have Hp2 := Lib.hid hp2; clear hX5 hY5 hO5 hR5 hS5 hB5 hp1 hp2))
          all_goals go_wp2_with fail
          all_goals (
            go_roundg f
            case measure => omega
            case rel =>
              refine ⟨key, v, ps ++ [⟨k, v2⟩], .slice (some ⟨gg, 0, none⟩) (ps.length + 1) cap1, r5, b5, hX7.far (by omega) 4 _, ?_, ?_, hR7.far (by omega) 4 _, hB7.set_new (by omega) 4 _, ?_, by simp only [List.length_append, List.length_cons, List.length_nil]; omega, ?_, ?_⟩
              · have := hY7.set 4 (.slice (some ⟨gg, 0, none⟩) (ps.length + 1) cap1)
                simpa [itCells] using this
              · have := ownsRow_setCell_below (a := ⟨w.heap.size + 1, 4, none⟩) hown1 (by show w.heap.size + 1 < _; omega) (.slice (some ⟨gg, 0, none⟩) (ps.length + 1) cap1)
                rw [pms_snoc, List.length_append]
                exact this
              · rw [size_set]
                have hs5 : W5.heap.size ≤ (W5.alloc (.cells #[.string (bs k), .int .i64 v2.k, .int .i64 v2.n, .string (bs v2.s)] 87)).heap.size := by simp
                omega
              · intro e
                have h2 := Hp2.out e
                have h3 := Hq.out
                cases b3 with
                | true =>
                  have h1 := Hk2.out rfl
                  simp at h1
                  rw [h1] at h3
                  simpa using h3.symm
                | false =>
                  have h1 := Hk1.out rfl
                  simp at h1 h2
                  rw [h1] at h3
                  simp only [h2] at h3
                  simpa using h3.symm
              · intro e
                have h2 := Hp1.out e
                have h3 := Hq.out
                cases b3 with
                | true => simp at h2
                | false =>
                  have h1 := Hk1.out rfl
                  simp at h1 h2
                  rw [h1] at h3
                  simp only [h2] at h3
                  refine ⟨by omega, ?_⟩
                  rw [← h3, Option.map_map]
                  congr 1
                  funext x
                  simp)
end Go.Proofs.YtelgjeeleofgoaaGreatDoor

/- field.Parse, whole: it answers as the plain words say. -/
namespace Go.Proofs.YtelgjeeleofgoaaGreatDoor
open Go.RowKit Go.Proofs.YtelgjeeleofgoaaGreatDoorW.PrintWords PF
set_option linter.unusedSimpArgs false
set_option linter.unusedVariables false

theorem trim_eq (l : Bs) : Lib.trimS l [32] = FM.trim FM.blank l := rfl
theorem trim_le (l : Bs) : (FM.trim FM.blank l).length ≤ l.length := by
  unfold FM.trim
  have h1 := FM.dropWhile_le FM.blank (l.reverse.dropWhile FM.blank).reverse
  have h2 := FM.dropWhile_le FM.blank l.reverse
  simp at h1 h2
  omega
theorem But.below_of {g : Nat} {w0 a b : World} (hb : Below w0.heap.size w0 a) (h : But g a b) (hg : w0.heap.size ≤ g) : Below w0.heap.size w0 b :=
  hb.trans ⟨h.os, h.tape, h.output, h.size, fun k hk => h.block k (Nat.lt_of_lt_of_le hk hb.size) (by omega)⟩
def PAns (Q : Option (List FM.It)) : List S56 × Bool := match Q with | some xs => (xs.map FM.It.out, true) | none => ([], false)
/-- At the head of a round. -/
def PRel (g n : Nat) (Q : Option (List FM.It)) (w : World) (f : Nat) (v : Value) (wr : World) : Prop :=
  ∃ xs l, Kd.S k56 56 wr w.heap.size (fun k => k ≠ g) v (xs.map FM.It.out) ∧ Rd g l false wr ∧ Below w.heap.size w wr ∧ l.length ≤ n ∧ xs.length + f = 17 ∧ xs.length ≤ 16 ∧
    (xs = [] → l = [] → Q = some []) ∧ ((xs ≠ [] ∨ l ≠ []) → Q = (FM.pItems (f - 1) l).map (xs ++ ·))
theorem S_but {α : Type} {d : Kd α} {e g base : Nat} {wr w1 : World} {v u : Value} {xs : List α} (h : Kd.S d e wr base (fun k => k ≠ g) v xs) (hb : But g wr w1) (hu : ∀ k, u.ownBlock = some k → wr.heap.size ≤ k) :
    Kd.S d e w1 base (fun k => k ≠ g ∧ ¬ some k = u.ownBlock) v xs :=
  Kd.S_mono (Kd.S_move (Kd.S_bound h) (fun k hk => hb.block k hk.2.2.1 hk.1)) (fun k hk => ⟨hk.1, fun e => by have := hu k e.symm; have := hk.2.2.1; omega⟩)
theorem S_but' {α : Type} {d : Kd α} {e g base : Nat} {wr w1 : World} {v : Value} {xs : List α} (h : Kd.S d e wr base (fun k => k ≠ g) v xs) (hb : But g wr w1) :
    Kd.S d e w1 base (fun k => k ≠ g) v xs := Kd.S_step h (fun k ho hk => hb.block k hk ho)
set_option maxHeartbeats 16000000 in
set_option maxRecDepth 100000 in
theorem parse_all (l0 : Bs) (w : World) (hG : Glob w) (hl : l0.length < 1073741824) (Q : Option (List FM.It)) (hQ : FM.pParse l0 = Q) (r1 : List S56) (r2 : Bool)
    (hr : PAns Q = (r1, r2)) :
    Calls Tryz.prog 32 #[.string (bs l0)] w fun e w' => ∃ v0_ : Value, e = .returned (.tuple #[v0_, .bool r2]) ∧ Kd.S k56 56 w' w.heap.size (fun _ => True) v0_ r1 ∧ Below w.heap.size w w' := by
  have HQ := Lib.hid hQ
  have HA := Lib.hid hr
  clear hQ hr
  have hT := strings_Trim.calls (bs l0) (bs [32]) (bs (FM.trim FM.blank l0)) w (by
    unfold strings_Trim.f
    rw [if_pos ⟨by rw [bs_size]; omega, by decide, by decide⟩, bs_data, bs_data, trim_eq]
    rfl)
  go_enter Tryz.func32, Tryz.ntmps32
  go_wp2_with fail
  refine hT.mono ?_
  rintro e w1 ⟨rfl, hB1⟩
  go_wp2_with fail
  have hR0 : Rd w1.heap.size (FM.trim FM.blank l0) false (w1.alloc (.cells #[.string (bs (FM.trim FM.blank l0)), .bool false] 82)) := ⟨by simpa using heap_alloc_new w1 _⟩
  have hB0 := hB1.alloc hB1.size (.cells #[.string (bs (FM.trim FM.blank l0)), .bool false] 82)
  have hgl : GlobLt w1.heap.size := (hG.below hB1).lt (Nat.le_refl _)
  have hwg : w.heap.size ≤ w1.heap.size := hB1.size
  have hle := trim_le l0
  have hq0 : FM.pParse l0 = (if FM.trim FM.blank l0 = [] then some [] else FM.pItems 16 (FM.trim FM.blank l0)) := rfl
  rw [HQ.out] at hq0
  clear HQ hT hB1
  obtain ⟨l1, hl1⟩ : ∃ l, FM.trim FM.blank l0 = l := ⟨_, rfl⟩
  obtain ⟨g, hg1⟩ : ∃ g, w1.heap.size = g := ⟨_, rfl⟩
  obtain ⟨W0, hW0⟩ : ∃ W, w1.alloc (.cells #[.string (bs (FM.trim FM.blank l0)), .bool false] 82) = W := ⟨_, rfl⟩
  rw [hW0] at hR0 hB0 ⊢
  rw [hg1] at hR0 hgl hwg ⊢
  rw [hl1] at hR0 hle hq0
  clear hl1 hg1 hW0
  have hstart : PRel g l0.length Q w 17 (.slice none 0 0) W0 := ⟨[], l1, Kd.S_nil _ _ _ _ _, hR0, hB0, hle, rfl, by simp, fun _ e => by rw [hq0, if_pos e], fun h => by
    rcases h with h | h
    · exact absurd rfl h
    · rw [hq0, if_neg h]; simp⟩
  have HST := Lib.hid hstart
  clear hstart hq0 hR0 hB0 hle
  go_loopg [5] 17 (fun f v wr => PRel g l0.length Q w f v wr)
  case atStart => exact HST.out
  case round =>
    clear HST
    obtain ⟨xs, l, hS, hR, hB, hln, hf, hx16, hq0, hq1⟩ := hrel
    obtain ⟨AA, cap, rfl⟩ := Kd.S_slice hS
    rw [List.length_map] at hS ⊢
    by_cases he : xs = [] ∧ l = []
    · obtain ⟨rfl, rfl⟩ := he
      have hQ0 := hq0 rfl rfl
      rw [hQ0] at HA
      have HA2 := HA.out
      simp only [PAns, List.map_nil, Prod.mk.injEq] at HA2
      obtain ⟨rfl, rfl⟩ := HA2
      have HS := Lib.hid hS
      have HR := Lib.hid hR
      have HB := Lib.hid hB
      have c0 := hR.c0
      have k1 : (bs []).toList = [] := bs_toList _
      clear hS hR hB hq0 hq1 HA
      go_wp2_with fail
      go_ret2
      exact ⟨_, rfl, Kd.S_mono HS.out (fun _ _ => trivial), HB.out⟩
    · cases gk with
      | zero => omega
      | succ f =>
      have hq := hq1 (by by_cases hx : xs = [] <;> simp_all)
      simp only [Nat.add_sub_cancel] at hq
      have HS := Lib.hid hS
      have HR := Lib.hid hR
      have HB := Lib.hid hB
      have Hq := Lib.hid hq
      have c0 := hR.c0
      have hcond : l ≠ [] ∨ (l = [] ∧ 0 < xs.length) := by
        by_cases hx : l = []
        · exact .inr ⟨hx, List.length_pos_iff.2 fun h => he ⟨h, hx⟩⟩
        · exact .inl hx
      clear hS hR hB hq0 hq1 hq he
      have hk : (bs l).toList = l := bs_toList l
      have hkk : (l ≠ [] ∧ (l != []) = true) ∨ (l = [] ∧ decide (0 < (xs.length : Int)) = true ∧ decide (0 < xs.length) = true) := by
        rcases hcond with hA | ⟨hA, hA2⟩
        · exact .inl ⟨hA, by simpa using hA⟩
        · exact .inr ⟨hA, decide_eq_true (by omega), decide_eq_true hA2⟩
      clear hcond
      rcases hkk with ⟨_, k1⟩ | ⟨rfl, k1, k2⟩
      all_goals (
        go_wp2_with fail
        refine (item_all g _ _ HR.out (hG.below HB.out) hgl (by omega)).mono ?_
        rintro e w2 ⟨x, vp, l2, b, rfl, hvp, hR2, hB2, hl2, hq1, hq2⟩
        (try clear k1)
        (try clear k2)
        clear hk c0
        have HS2 := Lib.hid (S_but (u := vp) HS.out hB2 (Kd.R_base hvp))
        have HV2 := Lib.hid (Kd.R_tight rfl hvp)
        have HR2 := Lib.hid hR2
        have HB2 := Lib.hid (But.below_of HB.out hB2 hwg)
        have Hlt := Lib.hid (Kd.S_lt HS.out)
        have Hq1 := Lib.hid hq1
        have Hq2 := Lib.hid hq2
        have hge := Lib.hid (Kd.R_base hvp)
        have hown := Lib.hid (Kd.S_R HS.out).1
        have hgw := HR.out.lt
        have hw2 := hB2.size
        clear HS HR HB hvp hR2 hB2 hq1 hq2
        unfold itV
        go_upto_region 5 with ((with_reducible refine gate_builtin (b := .append) (xs := #[.tmp 20, .tmp 23]) rfl ?_); (try (refine gate_guard (by rfl) ?_; dsimp only)); at_builtin; refine Kd.S_append k56 (w0 := w) w.heap.size rfl (.tmp 20) (.tmp 23) 48 56 (.agg #[(.string ⟨#[]⟩), (.int .i64 0), (.int .i64 0), (.string ⟨#[]⟩), (.slice none 0 0)]) 72 rfl Tryz.underlying48 info56 rfl (by decide) (by omega) (.slice AA xs.length cap) (xs.map FM.It.out) x.out [.string (bs x.key), .int .i64 x.v.k, .int .i64 x.v.n, .string (bs x.v.s), vp] (fun k_ => k_ ≠ g) (fun k_ => some k_ = vp.ownBlock) rfl rfl ?aP ?aK ?aF ?aO ?aB ?aS ?aL ?_; (case aP => exact k56_mkM _ _ _ x.out (Kd.R_lower HV2.out (by have := HB2.out.size; omega))); (case aK => exact fun k_ hk_ => ⟨by have := hge.out k_ hk_.symm; omega, fun e_ => by have := hge.out k_ hk_.symm; have := Hlt.out k_ e_.symm; omega⟩); (case aF => exact fun k_ hk_ => by omega); (case aO => exact HS2.out); (case aB => exact HB2.out); (case aS => exact HB2.out.size); (case aL => rw [List.length_map]; omega); intro v3 w3 ho hb hg hat; obtain ⟨A3, c3, e3⟩ := Kd.S_slice ho; simp only [List.length_append, List.length_map, List.length_cons, List.length_nil, Nat.zero_add] at e3; subst e3; have HS3 := Lib.hid (show Kd.S k56 56 w3 w.heap.size (fun k => k ≠ g) (.slice A3 (xs.length + 1) c3) ((xs ++ [x]).map FM.It.out) by rw [List.map_append]; exact ho); have HR3 := Lib.hid (HR2.out.grown hg (fun e_ => (hown.out g e_) rfl)); have HB3 := Lib.hid hb; clear ho hb hg hat HS2 HV2 HR2 HB2 hge hown Hlt)
        go_wp2_with fail
        refine (skip_any g l2 [32, 9] b _ HR3.out (by simp) (by decide)).mono ?_
        rintro e w4 ⟨rfl, hR4, hB4⟩
        have hS4 := S_but' HS3.out hB4
        have hB5 := But.below_of HB3.out hB4 hwg
        have hl4 := FM.dropWhile_le FM.blank2 l2
        replace hR4 : Rd g (l2.dropWhile FM.blank2) b w4 := hR4
        clear HS3 HB3 HR3 hB4
        obtain ⟨l4, hl4e⟩ : ∃ l4, l2.dropWhile FM.blank2 = l4 := ⟨_, rfl⟩
        rw [hl4e] at hR4 hl4
        have Hl4 := Lib.hid hl4e
        clear hl4e
        cases b with
        | true =>
          have hqn : Q = none := by
            rw [Hq.out]
            cases f with
            | zero => simp [FM.pItems]
            | succ f => simp [FM.pItems, Hq2.out rfl]
          rw [hqn] at HA
          have HA2 := HA.out
          simp only [PAns, Prod.mk.injEq] at HA2
          obtain ⟨rfl, rfl⟩ := HA2
          have HB := Lib.hid hB5
          have HR := Lib.hid hR4
          have c1 := hR4.c1
          have c0 := hR4.c0
          clear hB5 hR4 hS4 HA hqn
          go_wp2_with fail
          go_ret2
          exact ⟨_, rfl, Kd.S_nil _ _ _ _ _, HB.out⟩
        | false =>
          have Hi := Lib.hid (Hq1.out rfl)
          cases f with
          | zero =>
            have hqn : Q = none := by
              rw [Hq.out]
              simp [FM.pItems]
            rw [hqn] at HA
            have HA2 := HA.out
            simp only [PAns, Prod.mk.injEq] at HA2
            obtain ⟨rfl, rfl⟩ := HA2
            have HB := Lib.hid hB5
            have HR := Lib.hid hR4
            have c1 := hR4.c1
            have c0 := hR4.c0
            clear hB5 hR4 hS4 HA hqn
            have k1 : decide ((16 : Int) < (xs.length : Int) + 1) = true := decide_eq_true (by omega)
            have k2 : decide (16 < xs.length + 1) = true := decide_eq_true (by omega)
            have k3 : decide ((16 : Int) < ((xs.length + 1 : Nat) : Int)) = true := decide_eq_true (by omega)
            go_wp2_with fail
            go_ret2
            exact ⟨_, rfl, Kd.S_nil _ _ _ _ _, HB.out⟩
          | succ f =>
            have k1 : decide ((16 : Int) < (xs.length : Int) + 1) = false := decide_eq_false (by omega)
            have k2 : decide (16 < xs.length + 1) = false := decide_eq_false (by omega)
            have k3 : decide ((16 : Int) < ((xs.length + 1 : Nat) : Int)) = false := decide_eq_false (by omega)
            match l4, hR4, hl4, Hl4 with
            | [], hR4, hl4, Hl4 =>
              have hqn : Q = some (xs ++ [x]) := by
                rw [Hq.out]
                simp [FM.pItems, Hi.out, Hl4.out]
              rw [hqn] at HA
              have HA2 := HA.out
              simp only [PAns, Prod.mk.injEq] at HA2
              obtain ⟨rfl, rfl⟩ := HA2
              have HB := Lib.hid hB5
              have HR := Lib.hid hR4
              have HS := Lib.hid hS4
              have c1 := hR4.c1
              have c0 := hR4.c0
              have k0 : (bs []).toList = [] := bs_toList _
              clear hB5 hR4 hS4 HA hqn
              go_wp2_with fail
              go_ret2
              exact ⟨_, rfl, Kd.S_mono HS.out (fun _ _ => trivial), HB.out⟩
            | c :: r, hR4, hl4, Hl4 =>
              have k0 : (bs (c :: r)).toList = c :: r := bs_toList _
              by_cases hc : c.toNat = 44
              · have hqn : Q = (FM.pItems f (r.dropWhile FM.blank2)).map ((xs ++ [x]) ++ ·) := by
                  rw [Hq.out]
                  simp only [FM.pItems, Hi.out, Hl4.out, if_pos hc, Option.map_map]
                  congr 1
                  funext y
                  simp
                have HN := Lib.hid hqn
                have HB := Lib.hid hB5
                have HR := Lib.hid hR4
                have HS := Lib.hid hS4
                have HC := Lib.hid (show (c.toNat : Int) = 44 by omega)
                have c1 := hR4.c1
                have c0 := hR4.c0
                simp only [List.length_cons] at hl4
                clear hB5 hR4 hS4 hqn hc
                go_wp2_with fail
                refine (take_yes g c r false 44 _ HR.out (by omega) HC.out).mono ?_
                rintro e w' ⟨rfl, rfl⟩
                have hR5 : Rd g r false (w4.setCell ⟨g, 0, none⟩ (.string (bs r))) := HR.out.set0
                have hB5 : But g w4 (w4.setCell ⟨g, 0, none⟩ (.string (bs r))) := (But.refl g w4).set 0 (.string (bs r))
                obtain ⟨W5, hW5⟩ : ∃ W5, w4.setCell ⟨g, 0, none⟩ (.string (bs r)) = W5 := ⟨_, rfl⟩
                rw [hW5] at hR5 hB5 ⊢
                clear hW5 c0 c1 HR k0
                have HR5 := Lib.hid hR5
                have HB5 := Lib.hid hB5
                clear hR5 hB5
                go_wp2_with fail
                refine (skip_any g r [32, 9] false _ HR5.out (by simp) (by decide)).mono ?_
                rintro e w6 ⟨rfl, hR6, hB6⟩
                replace hR6 : Rd g (r.dropWhile FM.blank2) false w6 := hR6
                have hB7 := HB5.out.trans hB6
                have hS7 := S_but' HS.out hB7
                have hB8 := But.below_of HB.out hB7 hwg
                have hl6 := FM.dropWhile_le FM.blank2 r
                have HS7 := Lib.hid hS7
                have HR7 := Lib.hid hR6
                have HB8 := Lib.hid hB8
                clear hS7 hR6 hB8 hB7 hB6
                go_wp2_with fail
                go_roundg (f + 1)
                case measure => omega
                case rel => exact ⟨xs ++ [x], r.dropWhile FM.blank2, HS7.out, HR7.out, HB8.out, by omega, by simp only [List.length_append, List.length_cons, List.length_nil]; omega, by simp only [List.length_append, List.length_cons, List.length_nil]; omega, (fun e => absurd e (by simp)), fun _ => HN.out⟩
              · have hhd : hd (c :: r) 44 = false := by
                  simp only [hd]
                  exact beq_eq_false_iff_ne.2 (by omega)
                have hqn : Q = none := by
                  rw [Hq.out]
                  simp [FM.pItems, Hi.out, Hl4.out, hc]
                rw [hqn] at HA
                have HA2 := HA.out
                simp only [PAns, Prod.mk.injEq] at HA2
                obtain ⟨rfl, rfl⟩ := HA2
                have HB := Lib.hid hB5
                have HR := Lib.hid hR4
                have c1 := hR4.c1
                have c0 := hR4.c0
                clear hc hB5 hR4 hS4 HA hqn
                have HH := Lib.hid hhd
                clear hhd
                go_wp2_with fail
                refine (take_no g (c :: r) false 44 _ HR.out (by simp only [List.length_cons] at *; omega) HH.out).mono ?_
                rintro e w' ⟨rfl, rfl⟩
                go_wp2_with fail
                go_ret2
                exact ⟨_, rfl, Kd.S_nil _ _ _ _ _, HB.out⟩)
theorem field_Parse.calls (a0 : ByteArray) (r1 : List S56) (r2 : Bool) (w : World) (hG : Glob w) (h : field_Parse.f a0 = some (r1, r2)) :
    Calls Tryz.prog 32 #[.string a0] w fun e w' => ∃ v0_ : Value, e = .returned (.tuple #[v0_, .bool r2]) ∧ Kd.S k56 56 w' w.heap.size (fun _ => True) v0_ r1 ∧ Below w.heap.size w w' := by
  unfold field_Parse.f at h
  split at h
  · rename_i hc
    have := parse_all a0.data.toList w hG hc _ rfl r1 r2 (by
      cases hp : FM.pParse a0.data.toList with
      | none => rw [hp] at h; exact Option.some.inj h
      | some l => rw [hp] at h; exact Option.some.inj h)
    rw [bs_of] at this
    exact this
  · cases h
end Go.Proofs.YtelgjeeleofgoaaGreatDoor
