/- A part of the proof (see the last text): texts of the session and printed words, put together by a program of the session. -/
import Derived.Test.YtelgjeeleofgoaaGreatDoorZLater2
import Derived.Test.YtelgjeeleofgoaaGreatDoorZLater4
import Derived.Test.YtelgjeeleofgoaaGreatDoorZLater3
import Derived.BigQuiet
-- Printed by a program of this session (wip/pp.sh) out of the translation. Not trusted: Lean checks it.
namespace Go.Proofs.YtelgjeeleofgoaaGreatDoor.PF
open Go.RowKit Go.Proofs.YtelgjeeleofgoaaGreatDoorW.PrintWords Go.Proofs.YtelgjeeleofgoaaGreatDoorW.PrintLast Go.Proofs.YtelgjeeleofgoaaGreatDoorW.PrintMore
attribute [local go_sem] max2_int min2_int max_two min_two max_three min_three max_four min_four   -- for this text's walks alone
set_option linter.unusedVariables false
set_option linter.unusedSimpArgs false
noncomputable section

/-! ### field_number: function 62 -/
def field_number.f (a0_0 : Int) (a0_1 : Int) (a0_2 : ByteArray) : Option (Int × Bool) := if a0_0 = 1 then (some (a0_1, true)) else (some (0, false))
set_option maxHeartbeats 8000000 in
set_option maxRecDepth 100000 in
theorem field_number.calls (a0_0 : Int) (a0_1 : Int) (a0_2 : ByteArray) (r1 : Int) (r2 : Bool) (w : World) (h : field_number.f a0_0 a0_1 a0_2 = some (r1, r2)) :
    Calls Tryz.prog 62 #[.agg #[.int .i64 a0_0, .int .i64 a0_1, .string a0_2]] w fun e w' => e = .returned (.tuple #[.int .i64 r1, .bool r2]) ∧ Below w.heap.size w w' := by
  have hu53 := Tryz.underlying53
  have HB := Aside0.mk (Below.refl w.heap.size w)
  have H : (if a0_0 = 1 then (some (a0_1, true)) else (some (0, false))) = some (r1, r2) := h
  clear h
  by_cases c2 : a0_0 = 1
  · rw [if_pos c2] at H
    have c2b0 : (a0_0 == 1) = true := beq_iff_eq.mpr c2
    have c2b1 : (a0_0 != 1) = false := bne_eq_false_iff_eq.mpr c2
    clear c2
    simp only [Option.some.injEq, Prod.mk.injEq] at H
    obtain ⟨rfl, rfl⟩ := H
    go_enter Tryz.func62, Tryz.ntmps62
    go_wp2_with (first | ((with_reducible refine gate_dst (N := 1) rfl ?_); refine box_event ?hg (N := 1) ?hd (cs := #[.int .i64 a0_0, .int .i64 a0_1, .string a0_2]) (t := 53) ?hr ?_; (case hd => rfl); (case hg => rfl); (case hr => first | (go_simp; done) | (go_simp; rfl)); intro gb107 hg w3 hbox hb; have n0_ := Aside0.mk (below_step (by repeat (first | (with_reducible first | exact HB.out | apply below_alloc | apply pw_below_drewN | apply below_drew1) | exact HB.out)) hb); have n1_ := Aside0.mk (hbox); have n2_ := Aside0.mk ((by rw [hg]; exact (below_size (by repeat (first | (with_reducible first | exact HB.out | apply below_alloc | apply pw_below_drewN | apply below_drew1) | exact HB.out))) : w.heap.size ≤ gb107)); have n3_ := Aside0.mk ((by rw [hg]; exact (below_size (by repeat (first | (with_reducible first | exact HB.out | apply below_alloc | apply pw_below_drewN | apply below_drew1) | exact HB.out))) : w.heap.size ≤ gb107)); clear HB; have HB := n0_; have BK107 := n1_; have GW107 := n2_; have GE107 := n3_; clear n0_ n1_ n2_ n3_; clear hb hbox hg; have hcz4_0 : w3.cell? ⟨gb107, 0, none⟩ = some (.int .i64 a0_0) := (blk_cell BK107.out 0).trans rfl; have hcz4_1 : w3.cell? ⟨gb107, 1, none⟩ = some (.int .i64 a0_1) := (blk_cell BK107.out 1).trans rfl; have hcz4_2 : w3.cell? ⟨gb107, 2, none⟩ = some (.string a0_2) := (blk_cell BK107.out 2).trans rfl; have hfz4_0 := blk_frozen BK107.out 0; have hfz4_1 := blk_frozen BK107.out 1; have hfz4_2 := blk_frozen BK107.out 2))
    go_ret2
    exact ⟨by first | rfl | (simp [errW_none, errW_some] <;> rfl) | (simp [*, errW_none, errW_some] <;> rfl), by repeat (first | (with_reducible first | exact HB.out | apply below_alloc | apply pw_below_drewN | apply below_drew1 | refine below_set ?_ GE107.out) | exact HB.out)⟩
  · rw [if_neg c2] at H
    have c2b0 : (a0_0 == 1) = false := beq_eq_false_iff_ne.mpr c2
    have c2b1 : (a0_0 != 1) = true := bne_iff_ne.mpr c2
    simp only [Option.some.injEq, Prod.mk.injEq] at H
    obtain ⟨rfl, rfl⟩ := H
    go_enter Tryz.func62, Tryz.ntmps62
    go_wp2_with (first | ((with_reducible refine gate_dst (N := 1) rfl ?_); refine box_event ?hg (N := 1) ?hd (cs := #[.int .i64 a0_0, .int .i64 a0_1, .string a0_2]) (t := 53) ?hr ?_; (case hd => rfl); (case hg => rfl); (case hr => first | (go_simp; done) | (go_simp; rfl)); intro gb107 hg w5 hbox hb; have n0_ := Aside0.mk (below_step (by repeat (first | (with_reducible first | exact HB.out | apply below_alloc | apply pw_below_drewN | apply below_drew1) | exact HB.out)) hb); have n1_ := Aside0.mk (hbox); have n2_ := Aside0.mk ((by rw [hg]; exact (below_size (by repeat (first | (with_reducible first | exact HB.out | apply below_alloc | apply pw_below_drewN | apply below_drew1) | exact HB.out))) : w.heap.size ≤ gb107)); have n3_ := Aside0.mk ((by rw [hg]; exact (below_size (by repeat (first | (with_reducible first | exact HB.out | apply below_alloc | apply pw_below_drewN | apply below_drew1) | exact HB.out))) : w.heap.size ≤ gb107)); clear HB; have HB := n0_; have BK107 := n1_; have GW107 := n2_; have GE107 := n3_; clear n0_ n1_ n2_ n3_; clear hb hbox hg; have hcz6_0 : w5.cell? ⟨gb107, 0, none⟩ = some (.int .i64 a0_0) := (blk_cell BK107.out 0).trans rfl; have hcz6_1 : w5.cell? ⟨gb107, 1, none⟩ = some (.int .i64 a0_1) := (blk_cell BK107.out 1).trans rfl; have hcz6_2 : w5.cell? ⟨gb107, 2, none⟩ = some (.string a0_2) := (blk_cell BK107.out 2).trans rfl; have hfz6_0 := blk_frozen BK107.out 0; have hfz6_1 := blk_frozen BK107.out 1; have hfz6_2 := blk_frozen BK107.out 2))
    go_ret2
    exact ⟨by first | rfl | (simp [errW_none, errW_some] <;> rfl) | (simp [*, errW_none, errW_some] <;> rfl), by repeat (first | (with_reducible first | exact HB.out | apply below_alloc | apply pw_below_drewN | apply below_drew1 | refine below_set ?_ GE107.out) | exact HB.out)⟩

/-! ### field_Number: function 33 -/
def field_Number.l0 : Nat → List (S56) → ByteArray → Int → Option (Int × Bool)
  | 0, _, _, _ => none
  | k + 1, x0, x1, x6 => if x6 ≥ 0 then (if 0 ≤ x6 then (if x6 < (x0.length : Int) then (if ((rd_T56 x0 x6).f0).toList = x1.toList then ((field_number.f ((rd_T56 x0 x6).f1.f0) ((rd_T56 x0 x6).f1.f1) ((rd_T56 x0 x6).f1.f2)).bind fun bt110 => (some (bt110.1, bt110.2))) else (field_Number.l0 k x0 x1 (wrap64 (x6 - 1)))) else (none)) else (none)) else (some (0, false))
def field_Number.f (k : Nat) (l0 : List (S56)) (a1 : ByteArray) : Option (Int × Bool) := field_Number.l0 k l0 a1 (wrap64 ((l0.length : Int) - 1))
theorem field_Number.mono_l : ∀ k, (∀ y0 y1 y2, LeO (field_Number.l0 k y0 y1 y2) (field_Number.l0 (k + 1) y0 y1 y2))
  | 0 => fun _ _ _ r h => by simp [field_Number.l0] at h
  | k + 1 => by
    have ih0 := field_Number.mono_l k
    · intro y0 y1 y2
      unfold field_Number.l0
      repeat' first
      | (with_reducible exact ih0 _ _ _)
      | (with_reducible exact LeO.refl _)
      | (with_reducible exact LeO.none _)
      | (with_reducible refine LeO.ite ?_ ?_)
      | (with_reducible refine LeO.bind ?_ (fun _ => ?_))
      | exact ih0 _ _ _
      | exact LeO.none _
      | refine LeO.ite ?_ ?_
      | refine LeO.bind ?_ (fun _ => ?_)
theorem field_Number.mono : ∀ a0 a1 k, LeO (field_Number.f k a0 a1) (field_Number.f (k + 1) a0 a1) := by
  intro a0 a1 k
  have ih0 := field_Number.mono_l k
  unfold field_Number.f
  repeat' first
      | (with_reducible exact ih0 _ _ _)
      | (with_reducible exact LeO.refl _)
      | (with_reducible exact LeO.none _)
      | (with_reducible refine LeO.ite ?_ ?_)
      | (with_reducible refine LeO.bind ?_ (fun _ => ?_))
      | exact ih0 _ _ _
      | exact LeO.none _
      | refine LeO.ite ?_ ?_
      | refine LeO.bind ?_ (fun _ => ?_)
set_option maxHeartbeats 8000000 in
set_option maxRecDepth 100000 in
theorem field_Number.calls (k : Nat) (A0 : Option Addr) (c0 : Nat) (l0 : List (S56)) (a1 : ByteArray) (r1 : Int) (r2 : Bool) (w : World) (hr0 : Kd.C k56 w A0 l0.length l0) (hc0 : l0.length ≤ c0) (h : field_Number.f k l0 a1 = some (r1, r2)) :
    Calls Tryz.prog 33 #[.slice A0 l0.length c0, .string a1] w fun e w' => e = .returned (.tuple #[.int .i64 r1, .bool r2]) ∧ Below w.heap.size w w' := by
  have hu53 := Tryz.underlying53
  have HR0 := Aside0.mk hr0
  have HC0 := Aside0.mk hc0
  clear hr0 hc0
  have HB := Aside0.mk (Below.refl w.heap.size w)
  have H : (field_Number.l0 k l0 a1 (wrap64 ((l0.length : Int) - 1))) = some (r1, r2) := h
  clear h
  have H' := Aside0.mk H
  clear H
  go_enter Tryz.func33, Tryz.ntmps33
  go_wp2
  go_loopg [6] k (fun kq v6 w' => ∃ (x6_1 : Int), v6 = .int .i64 x6_1 ∧ Aside0 (field_Number.l0 kq l0 a1 x6_1 = some (r1, r2)) ∧ Aside0 (kq ≤ k) ∧ Aside0 (Below w.heap.size w w'))
  case atStart => exact ⟨(wrap64 ((l0.length : Int) - 1)), (by first | rfl | (simp; done) | (simp [*]; done)), H', ⟨Nat.le_refl _⟩, ⟨by repeat (first | (with_reducible first | exact HB.out | apply below_alloc | apply pw_below_drewN | apply below_drew1) | exact HB.out)⟩⟩
  case round =>
    clear H'
    try clear p2
    obtain ⟨x6_1, rfl, HA, HK1, HB⟩ := hrel
    cases gk with
    | zero => exact absurd HA.out (by simp [field_Number.l0])
    | succ k1 =>
      have H := HA.out
      clear HA
      simp only [field_Number.l0] at H
      by_cases c3 : x6_1 ≥ 0
      · rw [if_pos c3] at H
        have c3b0 : decide (0 ≤ x6_1) = true := decide_eq_true c3
        clear c3
        by_cases c4 : 0 ≤ x6_1
        · rw [if_pos c4] at H
          have c4b0 : decide (0 ≤ x6_1) = true := decide_eq_true c4
          clear c4
          by_cases c5 : x6_1 < (l0.length : Int)
          · rw [if_pos c5] at H
            have c5b0 : decide (x6_1 < (l0.length : Int)) = true := decide_eq_true c5
            clear c5
            by_cases c6 : ((rd_T56 l0 x6_1).f0).toList = a1.toList
            · rw [if_pos c6] at H
              have c6b0 : (((rd_T56 l0 x6_1).f0).toList == a1.toList) = true := beq_iff_eq.mpr c6
              have c6b1 : (((rd_T56 l0 x6_1).f0).toList != a1.toList) = false := bne_eq_false_iff_eq.mpr c6
              clear c6
              replace H := Option.bind_eq_some_iff.mp H
              obtain ⟨⟨t110, t111⟩, A70, H⟩ := H
              replace H : (some (t110, t111)) = some (r1, r2) := H
              have A7 := Aside0.mk A70
              clear A70
              simp only [Option.some.injEq, Prod.mk.injEq] at H
              obtain ⟨rfl, rfl⟩ := H
              have p108 : 0 ≤ (x6_1 : Int) := of_decide_eq_true (by first | (with_reducible assumption) | assumption)
              have q108 : x6_1 < (l0.length : Int) := of_decide_eq_true (by first | (with_reducible assumption) | assumption)
              obtain ⟨ad108, A108_4, c108_4, e108, hx108_0, hx108_1, hx108_2, hx108_3, hx108_4, hl108_4, hi108_4⟩ := at_T56 HR0.out x6_1 p108 q108
              cases e108
              replace hx108_0 := (HB.out.cell (World.block_lt_of_cell? w _ hx108_0)).trans hx108_0
              replace hx108_1 := (HB.out.cell (World.block_lt_of_cell? w _ hx108_1)).trans hx108_1
              replace hx108_2 := (HB.out.cell (World.block_lt_of_cell? w _ hx108_2)).trans hx108_2
              replace hx108_3 := (HB.out.cell (World.block_lt_of_cell? w _ hx108_3)).trans hx108_3
              replace hx108_4 := (HB.out.cell (World.block_lt_of_cell? w _ hx108_4)).trans hx108_4
              have HR108_4 := Aside0.mk hi108_4
              have HC108_4 := Aside0.mk hl108_4
              clear hi108_4 hl108_4
              replace p108 := eq_true p108
              replace q108 := eq_true q108
              have p109 : 0 ≤ (x6_1 : Int) := of_decide_eq_true (by first | (with_reducible assumption) | assumption)
              have q109 : x6_1 < (l0.length : Int) := of_decide_eq_true (by first | (with_reducible assumption) | assumption)
              obtain ⟨ad109, A109_4, c109_4, e109, hx109_0, hx109_1, hx109_2, hx109_3, hx109_4, hl109_4, hi109_4⟩ := at_T56 HR0.out x6_1 p109 q109
              obtain rfl : ad108 = ad109 := (by injection e109)
              replace hx109_0 := (HB.out.cell (World.block_lt_of_cell? w _ hx109_0)).trans hx109_0
              replace hx109_1 := (HB.out.cell (World.block_lt_of_cell? w _ hx109_1)).trans hx109_1
              replace hx109_2 := (HB.out.cell (World.block_lt_of_cell? w _ hx109_2)).trans hx109_2
              replace hx109_3 := (HB.out.cell (World.block_lt_of_cell? w _ hx109_3)).trans hx109_3
              replace hx109_4 := (HB.out.cell (World.block_lt_of_cell? w _ hx109_4)).trans hx109_4
              have HR109_4 := Aside0.mk hi109_4
              have HC109_4 := Aside0.mk hl109_4
              clear hi109_4 hl109_4
              replace p109 := eq_true p109
              replace q109 := eq_true q109
              have ea_ := Option.some.inj (hx108_4.symm.trans hx109_4)
              injection ea_ with ea_ en_ ec_
              subst ea_
              subst ec_
              clear en_
              go_wp2_with (first | ((with_reducible refine gate_callee (f := 62) rfl ?_); refine goesL_ (some 26) rfl rfl Tryz.func62 (by kernel_rfl) rfl #[.agg #[.int .i64 ((rd_T56 l0 x6_1).f1.f0), .int .i64 ((rd_T56 l0 x6_1).f1.f1), .string ((rd_T56 l0 x6_1).f1.f2)]] rfl (by (try simp only [List.map_toArray, List.map_cons, List.map_nil]); first | done | rfl | (simp only [List.length_drop, List.length_take]; rfl)) ?_; (with_reducible refine (field_number.calls ((rd_T56 l0 x6_1).f1.f0) ((rd_T56 l0 x6_1).f1.f1) ((rd_T56 l0 x6_1).f1.f2) t110 t111 _ A7.out).mono ?_); rintro e w8 ⟨rfl, hb⟩; refine ⟨_, rfl, ?_⟩; have n0_ := Aside0.mk (below_step (by repeat (first | (with_reducible first | exact HB.out | apply below_alloc | apply pw_below_drewN | apply below_drew1) | exact HB.out)) hb); clear HB; have HB := n0_; clear n0_; (try clear hb); (try clear hb2); (try clear hk); (try clear hi)))
              go_ret2
              exact ⟨by first | rfl | (simp [errW_none, errW_some] <;> rfl) | (simp [*, errW_none, errW_some] <;> rfl), by repeat (first | (with_reducible first | exact HB.out | apply below_alloc | apply pw_below_drewN | apply below_drew1) | exact HB.out)⟩
            · rw [if_neg c6] at H
              have c6b0 : (((rd_T56 l0 x6_1).f0).toList == a1.toList) = false := beq_eq_false_iff_ne.mpr c6
              have c6b1 : (((rd_T56 l0 x6_1).f0).toList != a1.toList) = true := bne_iff_ne.mpr c6
              have H' := Aside0.mk H
              clear H
              have p108 : 0 ≤ (x6_1 : Int) := of_decide_eq_true (by first | (with_reducible assumption) | assumption)
              have q108 : x6_1 < (l0.length : Int) := of_decide_eq_true (by first | (with_reducible assumption) | assumption)
              obtain ⟨ad108, A108_4, c108_4, e108, hx108_0, hx108_1, hx108_2, hx108_3, hx108_4, hl108_4, hi108_4⟩ := at_T56 HR0.out x6_1 p108 q108
              cases e108
              replace hx108_0 := (HB.out.cell (World.block_lt_of_cell? w _ hx108_0)).trans hx108_0
              replace hx108_1 := (HB.out.cell (World.block_lt_of_cell? w _ hx108_1)).trans hx108_1
              replace hx108_2 := (HB.out.cell (World.block_lt_of_cell? w _ hx108_2)).trans hx108_2
              replace hx108_3 := (HB.out.cell (World.block_lt_of_cell? w _ hx108_3)).trans hx108_3
              replace hx108_4 := (HB.out.cell (World.block_lt_of_cell? w _ hx108_4)).trans hx108_4
              have HR108_4 := Aside0.mk hi108_4
              have HC108_4 := Aside0.mk hl108_4
              clear hi108_4 hl108_4
              replace p108 := eq_true p108
              replace q108 := eq_true q108
              go_wp2
              go_roundg k1
              case measure => have := HK1.out; omega
              case rel => exact ⟨(wrap64 (x6_1 - 1)), (by first | rfl | (simp; done) | (simp [*]; done)), H', ⟨by have := HK1.out; omega⟩, ⟨by repeat (first | (with_reducible first | exact HB.out | apply below_alloc | apply pw_below_drewN | apply below_drew1) | exact HB.out)⟩⟩
          · rw [if_neg c5] at H
            exact absurd H (by simp)
        · rw [if_neg c4] at H
          exact absurd H (by simp)
      · rw [if_neg c3] at H
        have c3b0 : decide (0 ≤ x6_1) = false := decide_eq_false c3
        clear c3
        simp only [Option.some.injEq, Prod.mk.injEq] at H
        obtain ⟨rfl, rfl⟩ := H
        go_wp2
        go_ret2
        exact ⟨by first | rfl | (simp [errW_none, errW_some] <;> rfl) | (simp [*, errW_none, errW_some] <;> rfl), by repeat (first | (with_reducible first | exact HB.out | apply below_alloc | apply pw_below_drewN | apply below_drew1) | exact HB.out)⟩

/-! ### field_Param: function 34 -/
def field_Param.l0 : Nat → ByteArray → Int → ByteArray → Int → Int → ByteArray → List (S87) → Option (Int × Bool)
  | 0, _, _, _, _, _, _, _ => none
  | k + 1, x1, x6, x113000, x113001, x113002, x113003, x113004 => if x6 ≥ 0 then (if 0 ≤ x6 then (if x6 < (x113004.length : Int) then (if ((rd_T87 x113004 x6).f0).toList = x1.toList then ((field_number.f ((rd_T87 x113004 x6).f1.f0) ((rd_T87 x113004 x6).f1.f1) ((rd_T87 x113004 x6).f1.f2)).bind fun bt115 => (some (bt115.1, bt115.2))) else (field_Param.l0 k x1 (wrap64 (x6 - 1)) x113000 x113001 x113002 x113003 x113004)) else (none)) else (none)) else (some (0, false))
def field_Param.f (k : Nat) (a0_0 : ByteArray) (a0_1 : Int) (a0_2 : Int) (a0_3 : ByteArray) (l0_4 : List (S87)) (a1 : ByteArray) : Option (Int × Bool) := field_Param.l0 k a1 (wrap64 ((l0_4.length : Int) - 1)) a0_0 a0_1 a0_2 a0_3 l0_4
theorem field_Param.mono_l : ∀ k, (∀ y0 y1 y2 y3 y4 y5 y6, LeO (field_Param.l0 k y0 y1 y2 y3 y4 y5 y6) (field_Param.l0 (k + 1) y0 y1 y2 y3 y4 y5 y6))
  | 0 => fun _ _ _ _ _ _ _ r h => by simp [field_Param.l0] at h
  | k + 1 => by
    have ih0 := field_Param.mono_l k
    · intro y0 y1 y2 y3 y4 y5 y6
      unfold field_Param.l0
      repeat' first
      | (with_reducible exact ih0 _ _ _ _ _ _ _)
      | (with_reducible exact LeO.refl _)
      | (with_reducible exact LeO.none _)
      | (with_reducible refine LeO.ite ?_ ?_)
      | (with_reducible refine LeO.bind ?_ (fun _ => ?_))
      | exact ih0 _ _ _ _ _ _ _
      | exact LeO.none _
      | refine LeO.ite ?_ ?_
      | refine LeO.bind ?_ (fun _ => ?_)
theorem field_Param.mono : ∀ a0 a1 a2 a3 a4 a5 k, LeO (field_Param.f k a0 a1 a2 a3 a4 a5) (field_Param.f (k + 1) a0 a1 a2 a3 a4 a5) := by
  intro a0 a1 a2 a3 a4 a5 k
  have ih0 := field_Param.mono_l k
  unfold field_Param.f
  repeat' first
      | (with_reducible exact ih0 _ _ _ _ _ _ _)
      | (with_reducible exact LeO.refl _)
      | (with_reducible exact LeO.none _)
      | (with_reducible refine LeO.ite ?_ ?_)
      | (with_reducible refine LeO.bind ?_ (fun _ => ?_))
      | exact ih0 _ _ _ _ _ _ _
      | exact LeO.none _
      | refine LeO.ite ?_ ?_
      | refine LeO.bind ?_ (fun _ => ?_)
set_option maxHeartbeats 8000000 in
set_option maxRecDepth 100000 in
theorem field_Param.calls (k : Nat) (a0_0 : ByteArray) (a0_1 : Int) (a0_2 : Int) (a0_3 : ByteArray) (A0_4 : Option Addr) (c0_4 : Nat) (l0_4 : List (S87)) (a1 : ByteArray) (r1 : Int) (r2 : Bool) (w : World) (hr0_4 : Kd.C k87 w A0_4 l0_4.length l0_4) (hc0_4 : l0_4.length ≤ c0_4) (h : field_Param.f k a0_0 a0_1 a0_2 a0_3 l0_4 a1 = some (r1, r2)) :
    Calls Tryz.prog 34 #[.agg #[.string a0_0, .int .i64 a0_1, .int .i64 a0_2, .string a0_3, .slice A0_4 l0_4.length c0_4], .string a1] w fun e w' => e = .returned (.tuple #[.int .i64 r1, .bool r2]) ∧ Below w.heap.size w w' := by
  have hu56 := Tryz.underlying56
  have hu53 := Tryz.underlying53
  have HR0_4 := Aside0.mk hr0_4
  have HC0_4 := Aside0.mk hc0_4
  clear hr0_4 hc0_4
  have HB := Aside0.mk (Below.refl w.heap.size w)
  have H : (field_Param.l0 k a1 (wrap64 ((l0_4.length : Int) - 1)) a0_0 a0_1 a0_2 a0_3 l0_4) = some (r1, r2) := h
  clear h
  have H' := Aside0.mk H
  clear H
  go_enter Tryz.func34, Tryz.ntmps34
  go_wp2_with (first | ((with_reducible refine gate_dst (N := 2) rfl ?_); refine box_event ?hg (N := 2) ?hd (cs := #[.string a0_0, .int .i64 a0_1, .int .i64 a0_2, .string a0_3, .slice A0_4 l0_4.length c0_4]) (t := 56) ?hr ?_; (case hd => rfl); (case hg => rfl); (case hr => first | (go_simp; done) | (go_simp; rfl)); intro gb112 hg w3 hbox hb; have n0_ := Aside0.mk (below_step (by repeat (first | (with_reducible first | exact HB.out | apply below_alloc | apply pw_below_drewN | apply below_drew1) | exact HB.out)) hb); have n1_ := Aside0.mk (hbox); have n2_ := Aside0.mk ((by rw [hg]; exact (below_size (by repeat (first | (with_reducible first | exact HB.out | apply below_alloc | apply pw_below_drewN | apply below_drew1) | exact HB.out))) : w.heap.size ≤ gb112)); have n3_ := Aside0.mk ((by rw [hg]; exact (below_size (by repeat (first | (with_reducible first | exact HB.out | apply below_alloc | apply pw_below_drewN | apply below_drew1) | exact HB.out))) : w.heap.size ≤ gb112)); clear HB; have HB := n0_; have BK112 := n1_; have GW112 := n2_; have GE112 := n3_; clear n0_ n1_ n2_ n3_; clear hb hbox hg; have hcz4_0 : w3.cell? ⟨gb112, 0, none⟩ = some (.string a0_0) := (blk_cell BK112.out 0).trans rfl; have hcz4_1 : w3.cell? ⟨gb112, 1, none⟩ = some (.int .i64 a0_1) := (blk_cell BK112.out 1).trans rfl; have hcz4_2 : w3.cell? ⟨gb112, 2, none⟩ = some (.int .i64 a0_2) := (blk_cell BK112.out 2).trans rfl; have hcz4_3 : w3.cell? ⟨gb112, 3, none⟩ = some (.string a0_3) := (blk_cell BK112.out 3).trans rfl; have hcz4_4 : w3.cell? ⟨gb112, 4, none⟩ = some (.slice A0_4 l0_4.length c0_4) := (blk_cell BK112.out 4).trans rfl; have hfz4_0 := blk_frozen BK112.out 0; have hfz4_1 := blk_frozen BK112.out 1; have hfz4_2 := blk_frozen BK112.out 2; have hfz4_3 := blk_frozen BK112.out 3; have hfz4_4 := blk_frozen BK112.out 4))
  go_loopg [6] k (fun kq v6 w' => ∃ (x6_1 : Int), v6 = .int .i64 x6_1 ∧ Aside0 (field_Param.l0 kq a1 x6_1 a0_0 a0_1 a0_2 a0_3 l0_4 = some (r1, r2)) ∧ Aside0 (kq ≤ k) ∧ Aside0 (w'.heap[gb112]? = some (.cells #[.string a0_0, .int .i64 a0_1, .int .i64 a0_2, .string a0_3, (.slice A0_4 l0_4.length c0_4)] 56 (0, 0))) ∧ Aside0 (Below w.heap.size w w'))
  case atStart => exact ⟨(wrap64 ((l0_4.length : Int) - 1)), (by first | rfl | (simp; done) | (simp [*]; done)), H', ⟨Nat.le_refl _⟩, ⟨by (with_reducible repeat (first | refine blk_drewN ?_ _ | refine blk_drew ?_ | refine blk_alloc ?_ _)); exact BK112.out⟩, ⟨by repeat (first | (with_reducible first | exact HB.out | apply below_alloc | apply pw_below_drewN | apply below_drew1 | refine below_set ?_ GE112.out) | exact HB.out)⟩⟩
  case round =>
    clear H'
    try clear p2
    try clear c3
    try clear hcz4_0
    try clear hcz4_1
    try clear hcz4_2
    try clear hcz4_3
    try clear hcz4_4
    try clear hfz4_0
    try clear hfz4_1
    try clear hfz4_2
    try clear hfz4_3
    try clear hfz4_4
    obtain ⟨x6_1, rfl, HA, HK1, BK112, HB⟩ := hrel
    cases gk with
    | zero => exact absurd HA.out (by simp [field_Param.l0])
    | succ k1 =>
      have H := HA.out
      clear HA
      simp only [field_Param.l0] at H
      by_cases c5 : x6_1 ≥ 0
      · rw [if_pos c5] at H
        have c5b0 : decide (0 ≤ x6_1) = true := decide_eq_true c5
        clear c5
        by_cases c6 : 0 ≤ x6_1
        · rw [if_pos c6] at H
          have c6b0 : decide (0 ≤ x6_1) = true := decide_eq_true c6
          clear c6
          by_cases c7 : x6_1 < (l0_4.length : Int)
          · rw [if_pos c7] at H
            have c7b0 : decide (x6_1 < (l0_4.length : Int)) = true := decide_eq_true c7
            clear c7
            by_cases c8 : ((rd_T87 l0_4 x6_1).f0).toList = a1.toList
            · rw [if_pos c8] at H
              have c8b0 : (((rd_T87 l0_4 x6_1).f0).toList == a1.toList) = true := beq_iff_eq.mpr c8
              have c8b1 : (((rd_T87 l0_4 x6_1).f0).toList != a1.toList) = false := bne_eq_false_iff_eq.mpr c8
              clear c8
              replace H := Option.bind_eq_some_iff.mp H
              obtain ⟨⟨t115, t116⟩, A90, H⟩ := H
              replace H : (some (t115, t116)) = some (r1, r2) := H
              have A9 := Aside0.mk A90
              clear A90
              simp only [Option.some.injEq, Prod.mk.injEq] at H
              obtain ⟨rfl, rfl⟩ := H
              have hcz10_0 : wr.cell? ⟨gb112, 0, none⟩ = some (.string a0_0) := (blk_cell BK112.out 0).trans rfl
              have hcz10_1 : wr.cell? ⟨gb112, 1, none⟩ = some (.int .i64 a0_1) := (blk_cell BK112.out 1).trans rfl
              have hcz10_2 : wr.cell? ⟨gb112, 2, none⟩ = some (.int .i64 a0_2) := (blk_cell BK112.out 2).trans rfl
              have hcz10_3 : wr.cell? ⟨gb112, 3, none⟩ = some (.string a0_3) := (blk_cell BK112.out 3).trans rfl
              have hcz10_4 : wr.cell? ⟨gb112, 4, none⟩ = some (.slice A0_4 l0_4.length c0_4) := (blk_cell BK112.out 4).trans rfl
              have hfz10_0 := blk_frozen BK112.out 0
              have hfz10_1 := blk_frozen BK112.out 1
              have hfz10_2 := blk_frozen BK112.out 2
              have hfz10_3 := blk_frozen BK112.out 3
              have hfz10_4 := blk_frozen BK112.out 4
              have p113 : 0 ≤ (x6_1 : Int) := of_decide_eq_true (by first | (with_reducible assumption) | assumption)
              have q113 : x6_1 < (l0_4.length : Int) := of_decide_eq_true (by first | (with_reducible assumption) | assumption)
              obtain ⟨ad113, e113, hx113_0, hx113_1, hx113_2, hx113_3⟩ := at_T87 HR0_4.out x6_1 p113 q113
              cases e113
              replace hx113_0 := (HB.out.cell (World.block_lt_of_cell? w _ hx113_0)).trans hx113_0
              replace hx113_1 := (HB.out.cell (World.block_lt_of_cell? w _ hx113_1)).trans hx113_1
              replace hx113_2 := (HB.out.cell (World.block_lt_of_cell? w _ hx113_2)).trans hx113_2
              replace hx113_3 := (HB.out.cell (World.block_lt_of_cell? w _ hx113_3)).trans hx113_3
              replace p113 := eq_true p113
              replace q113 := eq_true q113
              have p114 : 0 ≤ (x6_1 : Int) := of_decide_eq_true (by first | (with_reducible assumption) | assumption)
              have q114 : x6_1 < (l0_4.length : Int) := of_decide_eq_true (by first | (with_reducible assumption) | assumption)
              obtain ⟨ad114, e114, hx114_0, hx114_1, hx114_2, hx114_3⟩ := at_T87 HR0_4.out x6_1 p114 q114
              obtain rfl : ad113 = ad114 := (by injection e114)
              replace hx114_0 := (HB.out.cell (World.block_lt_of_cell? w _ hx114_0)).trans hx114_0
              replace hx114_1 := (HB.out.cell (World.block_lt_of_cell? w _ hx114_1)).trans hx114_1
              replace hx114_2 := (HB.out.cell (World.block_lt_of_cell? w _ hx114_2)).trans hx114_2
              replace hx114_3 := (HB.out.cell (World.block_lt_of_cell? w _ hx114_3)).trans hx114_3
              replace p114 := eq_true p114
              replace q114 := eq_true q114
              go_wp2_with (first | ((with_reducible refine gate_callee (f := 62) rfl ?_); refine goesL_ (some 29) rfl rfl Tryz.func62 (by kernel_rfl) rfl #[.agg #[.int .i64 ((rd_T87 l0_4 x6_1).f1.f0), .int .i64 ((rd_T87 l0_4 x6_1).f1.f1), .string ((rd_T87 l0_4 x6_1).f1.f2)]] rfl (by (try simp only [List.map_toArray, List.map_cons, List.map_nil]); first | done | rfl | (simp only [List.length_drop, List.length_take]; rfl)) ?_; (with_reducible refine (field_number.calls ((rd_T87 l0_4 x6_1).f1.f0) ((rd_T87 l0_4 x6_1).f1.f1) ((rd_T87 l0_4 x6_1).f1.f2) t115 t116 _ A9.out).mono ?_); rintro e w11 ⟨rfl, hb⟩; refine ⟨_, rfl, ?_⟩; have n0_ := Aside0.mk (blk_below (g := gb112) (o := .cells #[.string a0_0, .int .i64 a0_1, .int .i64 a0_2, .string a0_3, .slice (some ad113) l0_4.length c0_4] 56 (0, 0)) (by (with_reducible repeat (first | refine blk_drewN ?_ _ | refine blk_drew ?_ | refine blk_alloc ?_ _)); exact BK112.out) hb); have n1_ := Aside0.mk (below_step (by repeat (first | (with_reducible first | exact HB.out | apply below_alloc | apply pw_below_drewN | apply below_drew1 | refine below_set ?_ GE112.out) | exact HB.out)) hb); clear BK112; clear HB; have BK112 := n0_; have HB := n1_; clear n0_ n1_; (try clear hb); (try clear hb2); (try clear hk); (try clear hi)))
              go_ret2
              exact ⟨by first | rfl | (simp [errW_none, errW_some] <;> rfl) | (simp [*, errW_none, errW_some] <;> rfl), by repeat (first | (with_reducible first | exact HB.out | apply below_alloc | apply pw_below_drewN | apply below_drew1 | refine below_set ?_ GE112.out) | exact HB.out)⟩
            · rw [if_neg c8] at H
              have c8b0 : (((rd_T87 l0_4 x6_1).f0).toList == a1.toList) = false := beq_eq_false_iff_ne.mpr c8
              have c8b1 : (((rd_T87 l0_4 x6_1).f0).toList != a1.toList) = true := bne_iff_ne.mpr c8
              have H' := Aside0.mk H
              clear H
              have hcz12_0 : wr.cell? ⟨gb112, 0, none⟩ = some (.string a0_0) := (blk_cell BK112.out 0).trans rfl
              have hcz12_1 : wr.cell? ⟨gb112, 1, none⟩ = some (.int .i64 a0_1) := (blk_cell BK112.out 1).trans rfl
              have hcz12_2 : wr.cell? ⟨gb112, 2, none⟩ = some (.int .i64 a0_2) := (blk_cell BK112.out 2).trans rfl
              have hcz12_3 : wr.cell? ⟨gb112, 3, none⟩ = some (.string a0_3) := (blk_cell BK112.out 3).trans rfl
              have hcz12_4 : wr.cell? ⟨gb112, 4, none⟩ = some (.slice A0_4 l0_4.length c0_4) := (blk_cell BK112.out 4).trans rfl
              have hfz12_0 := blk_frozen BK112.out 0
              have hfz12_1 := blk_frozen BK112.out 1
              have hfz12_2 := blk_frozen BK112.out 2
              have hfz12_3 := blk_frozen BK112.out 3
              have hfz12_4 := blk_frozen BK112.out 4
              have p113 : 0 ≤ (x6_1 : Int) := of_decide_eq_true (by first | (with_reducible assumption) | assumption)
              have q113 : x6_1 < (l0_4.length : Int) := of_decide_eq_true (by first | (with_reducible assumption) | assumption)
              obtain ⟨ad113, e113, hx113_0, hx113_1, hx113_2, hx113_3⟩ := at_T87 HR0_4.out x6_1 p113 q113
              cases e113
              replace hx113_0 := (HB.out.cell (World.block_lt_of_cell? w _ hx113_0)).trans hx113_0
              replace hx113_1 := (HB.out.cell (World.block_lt_of_cell? w _ hx113_1)).trans hx113_1
              replace hx113_2 := (HB.out.cell (World.block_lt_of_cell? w _ hx113_2)).trans hx113_2
              replace hx113_3 := (HB.out.cell (World.block_lt_of_cell? w _ hx113_3)).trans hx113_3
              replace p113 := eq_true p113
              replace q113 := eq_true q113
              go_wp2
              go_roundg k1
              case measure => have := HK1.out; omega
              case rel => exact ⟨(wrap64 (x6_1 - 1)), (by first | rfl | (simp; done) | (simp [*]; done)), H', ⟨by have := HK1.out; omega⟩, ⟨by (with_reducible repeat (first | refine blk_drewN ?_ _ | refine blk_drew ?_ | refine blk_alloc ?_ _)); exact BK112.out⟩, ⟨by repeat (first | (with_reducible first | exact HB.out | apply below_alloc | apply pw_below_drewN | apply below_drew1 | refine below_set ?_ GE112.out) | exact HB.out)⟩⟩
          · rw [if_neg c7] at H
            exact absurd H (by simp)
        · rw [if_neg c6] at H
          exact absurd H (by simp)
      · rw [if_neg c5] at H
        have c5b0 : decide (0 ≤ x6_1) = false := decide_eq_false c5
        clear c5
        simp only [Option.some.injEq, Prod.mk.injEq] at H
        obtain ⟨rfl, rfl⟩ := H
        go_wp2
        go_ret2
        exact ⟨by first | rfl | (simp [errW_none, errW_some] <;> rfl) | (simp [*, errW_none, errW_some] <;> rfl), by repeat (first | (with_reducible first | exact HB.out | apply below_alloc | apply pw_below_drewN | apply below_drew1 | refine below_set ?_ GE112.out) | exact HB.out)⟩

/-! ### feed_limit: function 18 -/
mutual
def feed_limit.j0 : Nat → List (S56) → Int → Bool → Option (Int × Bool)
  | 0, _, _, _ => none
  | k + 1, x4, x8, x42 => if x42 = true then (some (x8, true)) else (feed_limit.l0 k 0 false x4 (x4.length : Int) 0)
def feed_limit.l0 : Nat → Int → Bool → List (S56) → Int → Int → Option (Int × Bool)
  | 0, _, _, _, _, _ => none
  | k + 1, x10, x11, x44, x45, x46 => if x46 < x45 then (if 0 ≤ x46 then (if x46 < (x44.length : Int) then ((field_Param.f k ((rd_T56 x44 x46).f0) ((rd_T56 x44 x46).f1.f0) ((rd_T56 x44 x46).f1.f1) ((rd_T56 x44 x46).f1.f2) ((rd_T56 x44 x46).f2) (⟨#[114]⟩ : ByteArray)).bind fun bt127 => ((field_Param.f k ((rd_T56 x44 x46).f0) ((rd_T56 x44 x46).f1.f0) ((rd_T56 x44 x46).f1.f1) ((rd_T56 x44 x46).f1.f2) ((rd_T56 x44 x46).f2) (⟨#[116]⟩ : ByteArray)).bind fun bt129 => (if bt127.2 = true then (if bt129.2 = true then (if bt127.1 ≤ 0 then (if bt129.1 ≥ x10 then (feed_limit.l0 k bt129.1 true x44 x45 (wrap64 (x46 + 1))) else (feed_limit.l0 k x10 x11 x44 x45 (wrap64 (x46 + 1)))) else (feed_limit.l0 k x10 x11 x44 x45 (wrap64 (x46 + 1)))) else (feed_limit.l0 k x10 x11 x44 x45 (wrap64 (x46 + 1)))) else (feed_limit.l0 k x10 x11 x44 x45 (wrap64 (x46 + 1)))))) else (none)) else (none)) else (some (x10, x11))
end
def feed_limit.f (k : Nat) (a0 : ByteArray) : Option (Int × Bool) := (field_Parse.f a0).bind fun bt117 => (if bt117.2 = true then ((field_Number.f k bt117.1 (⟨#[114, 101, 109, 97, 105, 110, 105, 110, 103]⟩ : ByteArray)).bind fun bt121 => ((field_Number.f k bt117.1 (⟨#[114, 101, 115, 101, 116]⟩ : ByteArray)).bind fun bt123 => (if bt121.2 = true then (if bt123.2 = true then (feed_limit.j0 k bt117.1 bt123.1 (decide (bt121.1 ≤ 0))) else (feed_limit.j0 k bt117.1 bt123.1 false)) else (feed_limit.j0 k bt117.1 bt123.1 false)))) else (some (0, false)))
theorem feed_limit.mono_l : ∀ k, (∀ y0 y1 y2, LeO (feed_limit.j0 k y0 y1 y2) (feed_limit.j0 (k + 1) y0 y1 y2)) ∧ (∀ y0 y1 y2 y3 y4, LeO (feed_limit.l0 k y0 y1 y2 y3 y4) (feed_limit.l0 (k + 1) y0 y1 y2 y3 y4))
  | 0 => ⟨fun _ _ _ r h => by simp [feed_limit.j0] at h, fun _ _ _ _ _ r h => by simp [feed_limit.l0] at h⟩
  | k + 1 => by
    obtain ⟨ih0, ih1⟩ := feed_limit.mono_l k
    refine ⟨?_, ?_⟩
    · intro y0 y1 y2
      unfold feed_limit.j0
      repeat' first
      | (with_reducible exact ih0 _ _ _)
      | (with_reducible exact ih1 _ _ _ _ _)
      | (with_reducible exact field_Number.mono _ _ _)
      | (with_reducible exact field_Param.mono _ _ _ _ _ _ _)
      | (with_reducible exact LeO.refl _)
      | (with_reducible exact LeO.none _)
      | (with_reducible refine LeO.ite ?_ ?_)
      | (with_reducible refine LeO.bind ?_ (fun _ => ?_))
      | exact ih0 _ _ _
      | exact ih1 _ _ _ _ _
      | exact field_Number.mono _ _ _
      | exact field_Param.mono _ _ _ _ _ _ _
      | exact LeO.none _
      | refine LeO.ite ?_ ?_
      | refine LeO.bind ?_ (fun _ => ?_)
    · intro y0 y1 y2 y3 y4
      unfold feed_limit.l0
      repeat' first
      | (with_reducible exact ih0 _ _ _)
      | (with_reducible exact ih1 _ _ _ _ _)
      | (with_reducible exact field_Number.mono _ _ _)
      | (with_reducible exact field_Param.mono _ _ _ _ _ _ _)
      | (with_reducible exact LeO.refl _)
      | (with_reducible exact LeO.none _)
      | (with_reducible refine LeO.ite ?_ ?_)
      | (with_reducible refine LeO.bind ?_ (fun _ => ?_))
      | exact ih0 _ _ _
      | exact ih1 _ _ _ _ _
      | exact field_Number.mono _ _ _
      | exact field_Param.mono _ _ _ _ _ _ _
      | exact LeO.none _
      | refine LeO.ite ?_ ?_
      | refine LeO.bind ?_ (fun _ => ?_)
theorem feed_limit.mono : ∀ a0 k, LeO (feed_limit.f k a0) (feed_limit.f (k + 1) a0) := by
  intro a0 k
  obtain ⟨ih0, ih1⟩ := feed_limit.mono_l k
  unfold feed_limit.f
  repeat' first
      | (with_reducible exact ih0 _ _ _)
      | (with_reducible exact ih1 _ _ _ _ _)
      | (with_reducible exact field_Number.mono _ _ _)
      | (with_reducible exact field_Param.mono _ _ _ _ _ _ _)
      | (with_reducible exact LeO.refl _)
      | (with_reducible exact LeO.none _)
      | (with_reducible refine LeO.ite ?_ ?_)
      | (with_reducible refine LeO.bind ?_ (fun _ => ?_))
      | exact ih0 _ _ _
      | exact ih1 _ _ _ _ _
      | exact field_Number.mono _ _ _
      | exact field_Param.mono _ _ _ _ _ _ _
      | exact LeO.none _
      | refine LeO.ite ?_ ?_
      | refine LeO.bind ?_ (fun _ => ?_)
set_option maxHeartbeats 8000000 in
set_option maxRecDepth 100000 in
theorem feed_limit.calls (k : Nat) (a0 : ByteArray) (r1 : Int) (r2 : Bool) (w : World) (hG : Glob w) (h : feed_limit.f k a0 = some (r1, r2)) :
    Calls Tryz.prog 18 #[.string a0] w fun e w' => e = .returned (.tuple #[.int .i64 r1, .bool r2]) ∧ Below w.heap.size w w' := by
  have hu56 := Tryz.underlying56
  have HB := Aside0.mk (Below.refl w.heap.size w)
  have HG := Aside0.mk hG
  clear hG
  have H : ((field_Parse.f a0).bind fun bt117 => (if bt117.2 = true then ((field_Number.f k bt117.1 (⟨#[114, 101, 109, 97, 105, 110, 105, 110, 103]⟩ : ByteArray)).bind fun bt121 => ((field_Number.f k bt117.1 (⟨#[114, 101, 115, 101, 116]⟩ : ByteArray)).bind fun bt123 => (if bt121.2 = true then (if bt123.2 = true then (feed_limit.j0 k bt117.1 bt123.1 (decide (bt121.1 ≤ 0))) else (feed_limit.j0 k bt117.1 bt123.1 false)) else (feed_limit.j0 k bt117.1 bt123.1 false)))) else (some (0, false)))) = some (r1, r2) := h
  clear h
  replace H := Option.bind_eq_some_iff.mp H
  obtain ⟨⟨t117, t118⟩, A20, H⟩ := H
  replace H : (if t118 = true then ((field_Number.f k t117 (⟨#[114, 101, 109, 97, 105, 110, 105, 110, 103]⟩ : ByteArray)).bind fun bt121 => ((field_Number.f k t117 (⟨#[114, 101, 115, 101, 116]⟩ : ByteArray)).bind fun bt123 => (if bt121.2 = true then (if bt123.2 = true then (feed_limit.j0 k t117 bt123.1 (decide (bt121.1 ≤ 0))) else (feed_limit.j0 k t117 bt123.1 false)) else (feed_limit.j0 k t117 bt123.1 false)))) else (some (0, false))) = some (r1, r2) := H
  have A2 := Aside0.mk A20
  clear A20
  by_cases c3 : t118 = true
  · subst c3
    have H1 : ((field_Number.f k t117 (⟨#[114, 101, 109, 97, 105, 110, 105, 110, 103]⟩ : ByteArray)).bind fun bt121 => ((field_Number.f k t117 (⟨#[114, 101, 115, 101, 116]⟩ : ByteArray)).bind fun bt123 => (if bt121.2 = true then (if bt123.2 = true then (feed_limit.j0 k t117 bt123.1 (decide (bt121.1 ≤ 0))) else (feed_limit.j0 k t117 bt123.1 false)) else (feed_limit.j0 k t117 bt123.1 false)))) = some (r1, r2) := by rw [if_pos rfl] at H; exact H
    clear H
    have H := H1
    clear H1
    replace H := Option.bind_eq_some_iff.mp H
    obtain ⟨⟨t121, t122⟩, A40, H⟩ := H
    replace H : ((field_Number.f k t117 (⟨#[114, 101, 115, 101, 116]⟩ : ByteArray)).bind fun bt123 => (if t122 = true then (if bt123.2 = true then (feed_limit.j0 k t117 bt123.1 (decide (t121 ≤ 0))) else (feed_limit.j0 k t117 bt123.1 false)) else (feed_limit.j0 k t117 bt123.1 false))) = some (r1, r2) := H
    have A4 := Aside0.mk A40
    clear A40
    replace H := Option.bind_eq_some_iff.mp H
    obtain ⟨⟨t123, t124⟩, A50, H⟩ := H
    replace H : (if t122 = true then (if t124 = true then (feed_limit.j0 k t117 t123 (decide (t121 ≤ 0))) else (feed_limit.j0 k t117 t123 false)) else (feed_limit.j0 k t117 t123 false)) = some (r1, r2) := H
    have A5 := Aside0.mk A50
    clear A50
    have HC6 := Aside0.mk H
    clear H
    go_enter Tryz.func18, Tryz.ntmps18
    go_upto_region 6 with (first | ((with_reducible refine gate_callee (f := 32) rfl ?_); refine goesL_ (some 20) rfl rfl Tryz.func32 (by kernel_rfl) rfl #[.string a0] rfl (by (try simp only [List.map_toArray, List.map_cons, List.map_nil]); first | done | rfl | (simp only [List.length_drop, List.length_take]; rfl)) ?_; (with_reducible refine (field_Parse.calls a0 t117 true _ ?side1 A2.out).mono ?_); (case side1 => exact HG.out.below (by repeat (first | (with_reducible first | exact HB.out | apply below_alloc | apply pw_below_drewN | apply below_drew1) | exact HB.out))); rintro e w7 ⟨v119, rfl, ho0, hb⟩; refine ⟨_, rfl, ?_⟩; have n0_ := Aside0.mk (Kd.S_lower ho0 (below_size (by repeat (first | (with_reducible first | exact HB.out | apply below_alloc | apply pw_below_drewN | apply below_drew1) | exact HB.out)))); have n1_ := Aside0.mk (below_step (by repeat (first | (with_reducible first | exact HB.out | apply below_alloc | apply pw_below_drewN | apply below_drew1) | exact HB.out)) hb); clear HB; have HO120 := n0_; have HB := n1_; clear n0_ n1_; (try clear hb); (try clear hb2); (try clear hk); (try clear hi); (try clear ho0); obtain ⟨Ao8, co8, eo8⟩ := Kd.S_slice HO120.out; subst eo8) | ((with_reducible refine gate_callee (f := 33) rfl ?_); refine goesL_ (some 27) rfl rfl Tryz.func33 (by kernel_rfl) rfl #[.slice Ao8 t117.length co8, .string (⟨#[114, 101, 109, 97, 105, 110, 105, 110, 103]⟩ : ByteArray)] rfl (by (try simp only [List.map_toArray, List.map_cons, List.map_nil]); first | done | rfl | (simp only [List.length_drop, List.length_take]; rfl)) ?_; (with_reducible refine (field_Number.calls k _ _ t117 (⟨#[114, 101, 109, 97, 105, 110, 105, 110, 103]⟩ : ByteArray) t121 t122 _ ?side1 ?side2 A4.out).mono ?_); (case side1 => repeat (first | exact (Kd.S_reads' HO120.out).2.2 | (with_reducible refine Kd.C_alloc ?_ _) | (with_reducible refine Kd.C_drewN ?_ _) | (with_reducible refine Kd.C_drew ?_))); (case side2 => exact (Kd.S_reads' HO120.out).2.1); rintro e w9 ⟨rfl, hb⟩; refine ⟨_, rfl, ?_⟩; have n0_ := Aside0.mk (Kd.S_below (by (with_reducible repeat (first | apply Kd.S_alloc | apply Kd.S_drewN | apply Kd.S_drew)); exact HO120.out) hb); have n1_ := Aside0.mk (below_step (by repeat (first | (with_reducible first | exact HB.out | apply below_alloc | apply pw_below_drewN | apply below_drew1) | exact HB.out)) hb); clear HO120; clear HB; have HO120 := n0_; have HB := n1_; clear n0_ n1_; (try clear hb); (try clear hb2); (try clear hk); (try clear hi)) | ((with_reducible refine gate_callee (f := 33) rfl ?_); refine goesL_ (some 32) rfl rfl Tryz.func33 (by kernel_rfl) rfl #[.slice Ao8 t117.length co8, .string (⟨#[114, 101, 115, 101, 116]⟩ : ByteArray)] rfl (by (try simp only [List.map_toArray, List.map_cons, List.map_nil]); first | done | rfl | (simp only [List.length_drop, List.length_take]; rfl)) ?_; (with_reducible refine (field_Number.calls k _ _ t117 (⟨#[114, 101, 115, 101, 116]⟩ : ByteArray) t123 t124 _ ?side1 ?side2 A5.out).mono ?_); (case side1 => repeat (first | exact (Kd.S_reads' HO120.out).2.2 | (with_reducible refine Kd.C_alloc ?_ _) | (with_reducible refine Kd.C_drewN ?_ _) | (with_reducible refine Kd.C_drew ?_))); (case side2 => exact (Kd.S_reads' HO120.out).2.1); rintro e w10 ⟨rfl, hb⟩; refine ⟨_, rfl, ?_⟩; have n0_ := Aside0.mk (Kd.S_below (by (with_reducible repeat (first | apply Kd.S_alloc | apply Kd.S_drewN | apply Kd.S_drew)); exact HO120.out) hb); have n1_ := Aside0.mk (below_step (by repeat (first | (with_reducible first | exact HB.out | apply below_alloc | apply pw_below_drewN | apply below_drew1) | exact HB.out)) hb); clear HO120; clear HB; have HO120 := n0_; have HB := n1_; clear n0_ n1_; (try clear hb); (try clear hb2); (try clear hk); (try clear hi)))
    (try simp only [Act.put, List.setIfInBounds_toArray, List.set_cons_zero, List.set_cons_succ])
    go_cut [42] (fun v42 wc => ∃ (kq : Nat) (x42_5 : Bool), v42 = .bool x42_5 ∧ Aside0 (feed_limit.j0 kq t117 t123 x42_5 = some (r1, r2)) ∧ Aside0 (kq ≤ k) ∧ Aside0 (Kd.S k56 56 wc w.heap.size (fun _ => True) (.slice Ao8 t117.length co8) t117) ∧ Aside0 (Below w.heap.size w wc))
    case first =>
      have H := HC6.out
      clear HC6
      by_cases c11 : t122 = true
      · subst c11
        have H1 : (if t124 = true then (feed_limit.j0 k t117 t123 (decide (t121 ≤ 0))) else (feed_limit.j0 k t117 t123 false)) = some (r1, r2) := by rw [if_pos rfl] at H; exact H
        clear H
        have H := H1
        clear H1
        by_cases c12 : t124 = true
        · subst c12
          have H1 : (feed_limit.j0 k t117 t123 (decide (t121 ≤ 0))) = some (r1, r2) := by rw [if_pos rfl] at H; exact H
          clear H
          have H := H1
          clear H1
          have H' := Aside0.mk H
          clear H
          go_wp2
          go_meet
          case rel => exact ⟨_, (decide (t121 ≤ 0)), (by first | rfl | (simp; done) | (simp [*]; done)), H', ⟨by first | omega | exact Nat.le_refl _⟩, ⟨by (with_reducible repeat (first | apply Kd.S_alloc | apply Kd.S_drewN | apply Kd.S_drew)); exact HO120.out⟩, ⟨by repeat (first | (with_reducible first | exact HB.out | apply below_alloc | apply pw_below_drewN | apply below_drew1) | exact HB.out)⟩⟩
        · replace c12 := Bool.eq_false_iff.mpr c12
          subst c12
          have H1 : (feed_limit.j0 k t117 t123 false) = some (r1, r2) := by rw [if_neg (show ¬ (false = true) by decide)] at H; exact H
          clear H
          have H := H1
          clear H1
          have H' := Aside0.mk H
          clear H
          go_wp2
          go_meet
          case rel => exact ⟨_, (false), (by first | rfl | (simp; done) | (simp [*]; done)), H', ⟨by first | omega | exact Nat.le_refl _⟩, ⟨by (with_reducible repeat (first | apply Kd.S_alloc | apply Kd.S_drewN | apply Kd.S_drew)); exact HO120.out⟩, ⟨by repeat (first | (with_reducible first | exact HB.out | apply below_alloc | apply pw_below_drewN | apply below_drew1) | exact HB.out)⟩⟩
      · replace c11 := Bool.eq_false_iff.mpr c11
        subst c11
        have H1 : (feed_limit.j0 k t117 t123 false) = some (r1, r2) := by rw [if_neg (show ¬ (false = true) by decide)] at H; exact H
        clear H
        have H := H1
        clear H1
        have H' := Aside0.mk H
        clear H
        go_wp2
        go_meet
        case rel => exact ⟨_, (false), (by first | rfl | (simp; done) | (simp [*]; done)), H', ⟨by first | omega | exact Nat.le_refl _⟩, ⟨by (with_reducible repeat (first | apply Kd.S_alloc | apply Kd.S_drewN | apply Kd.S_drew)); exact HO120.out⟩, ⟨by repeat (first | (with_reducible first | exact HB.out | apply below_alloc | apply pw_below_drewN | apply below_drew1) | exact HB.out)⟩⟩
    case rest =>
      clear HC6
      try clear c1
      try clear p2
      try clear c3
      try clear c11
      try clear c12
      obtain ⟨kq, x42_5, rfl, HA, HJ5, HO_4, HB⟩ := hcut
      cases kq with
      | zero => exact absurd HA.out (by simp [feed_limit.j0])
      | succ kj5 =>
        have H := HA.out
        clear HA
        simp only [feed_limit.j0] at H
        by_cases c13 : x42_5 = true
        · subst c13
          have H1 : (some (t123, true)) = some (r1, r2) := by rw [if_pos rfl] at H; exact H
          clear H
          have H := H1
          clear H1
          simp only [Option.some.injEq, Prod.mk.injEq] at H
          obtain ⟨rfl, rfl⟩ := H
          go_wp2
          go_ret2
          exact ⟨by first | rfl | (simp [errW_none, errW_some] <;> rfl) | (simp [*, errW_none, errW_some] <;> rfl), by repeat (first | (with_reducible first | exact HB.out | apply below_alloc | apply pw_below_drewN | apply below_drew1) | exact HB.out)⟩
        · replace c13 := Bool.eq_false_iff.mpr c13
          subst c13
          have H1 : (feed_limit.l0 kj5 0 false t117 (t117.length : Int) 0) = some (r1, r2) := by rw [if_neg (show ¬ (false = true) by decide)] at H; exact H
          clear H
          have H := H1
          clear H1
          have H' := Aside0.mk H
          clear H
          go_wp2
          go_loopg [10, 11, 46] kj5 (fun kq v10 v11 v46 w' => ∃ (x10_2 : Int) (x11_2 : Bool) (x46_2 : Int), v10 = .int .i64 x10_2 ∧ v11 = .bool x11_2 ∧ v46 = .int .i64 x46_2 ∧ Aside0 (feed_limit.l0 kq x10_2 x11_2 t117 (t117.length : Int) x46_2 = some (r1, r2)) ∧ Aside0 (kq ≤ kj5) ∧ Aside0 (Kd.S k56 56 w' w.heap.size (fun _ => True) (.slice Ao8 t117.length co8) t117) ∧ Aside0 (Below w.heap.size w w'))
          case atStart => exact ⟨(0), (false), (0), (by first | rfl | (simp; done) | (simp [*]; done)), (by first | rfl | (simp; done) | (simp [*]; done)), (by first | rfl | (simp; done) | (simp [*]; done)), H', ⟨Nat.le_refl _⟩, ⟨by (with_reducible repeat (first | apply Kd.S_alloc | apply Kd.S_drewN | apply Kd.S_drew)); exact HO_4.out⟩, ⟨by repeat (first | (with_reducible first | exact HB.out | apply below_alloc | apply pw_below_drewN | apply below_drew1) | exact HB.out)⟩⟩
          case round =>
            clear H'
            try clear c1
            try clear p2
            try clear c3
            try clear c11
            try clear c12
            try clear c13
            try clear p2
            obtain ⟨x10_2, x11_2, x46_2, rfl, rfl, rfl, HA, HK2, HO_44, HB⟩ := hrel
            cases gk with
            | zero => exact absurd HA.out (by simp [feed_limit.l0])
            | succ k2 =>
              have H := HA.out
              clear HA
              simp only [feed_limit.l0] at H
              by_cases c14 : x46_2 < (t117.length : Int)
              · rw [if_pos c14] at H
                have c14b0 : decide (x46_2 < (t117.length : Int)) = true := decide_eq_true c14
                clear c14
                by_cases c15 : 0 ≤ x46_2
                · rw [if_pos c15] at H
                  have c15b0 : decide (0 ≤ x46_2) = true := decide_eq_true c15
                  clear c15
                  by_cases c16 : x46_2 < (t117.length : Int)
                  · rw [if_pos c16] at H
                    have c16b0 : decide (x46_2 < (t117.length : Int)) = true := decide_eq_true c16
                    clear c16
                    replace H := Option.bind_eq_some_iff.mp H
                    obtain ⟨⟨t127, t128⟩, A170, H⟩ := H
                    replace H : ((field_Param.f k2 ((rd_T56 t117 x46_2).f0) ((rd_T56 t117 x46_2).f1.f0) ((rd_T56 t117 x46_2).f1.f1) ((rd_T56 t117 x46_2).f1.f2) ((rd_T56 t117 x46_2).f2) (⟨#[116]⟩ : ByteArray)).bind fun bt129 => (if t128 = true then (if bt129.2 = true then (if t127 ≤ 0 then (if bt129.1 ≥ x10_2 then (feed_limit.l0 k2 bt129.1 true t117 (t117.length : Int) (wrap64 (x46_2 + 1))) else (feed_limit.l0 k2 x10_2 x11_2 t117 (t117.length : Int) (wrap64 (x46_2 + 1)))) else (feed_limit.l0 k2 x10_2 x11_2 t117 (t117.length : Int) (wrap64 (x46_2 + 1)))) else (feed_limit.l0 k2 x10_2 x11_2 t117 (t117.length : Int) (wrap64 (x46_2 + 1)))) else (feed_limit.l0 k2 x10_2 x11_2 t117 (t117.length : Int) (wrap64 (x46_2 + 1))))) = some (r1, r2) := H
                    have A17 := Aside0.mk A170
                    clear A170
                    replace H := Option.bind_eq_some_iff.mp H
                    obtain ⟨⟨t129, t130⟩, A180, H⟩ := H
                    replace H : (if t128 = true then (if t130 = true then (if t127 ≤ 0 then (if t129 ≥ x10_2 then (feed_limit.l0 k2 t129 true t117 (t117.length : Int) (wrap64 (x46_2 + 1))) else (feed_limit.l0 k2 x10_2 x11_2 t117 (t117.length : Int) (wrap64 (x46_2 + 1)))) else (feed_limit.l0 k2 x10_2 x11_2 t117 (t117.length : Int) (wrap64 (x46_2 + 1)))) else (feed_limit.l0 k2 x10_2 x11_2 t117 (t117.length : Int) (wrap64 (x46_2 + 1)))) else (feed_limit.l0 k2 x10_2 x11_2 t117 (t117.length : Int) (wrap64 (x46_2 + 1)))) = some (r1, r2) := H
                    have A18 := Aside0.mk A180
                    clear A180
                    by_cases c19 : t128 = true
                    · subst c19
                      have H1 : (if t130 = true then (if t127 ≤ 0 then (if t129 ≥ x10_2 then (feed_limit.l0 k2 t129 true t117 (t117.length : Int) (wrap64 (x46_2 + 1))) else (feed_limit.l0 k2 x10_2 x11_2 t117 (t117.length : Int) (wrap64 (x46_2 + 1)))) else (feed_limit.l0 k2 x10_2 x11_2 t117 (t117.length : Int) (wrap64 (x46_2 + 1)))) else (feed_limit.l0 k2 x10_2 x11_2 t117 (t117.length : Int) (wrap64 (x46_2 + 1)))) = some (r1, r2) := by rw [if_pos rfl] at H; exact H
                      clear H
                      have H := H1
                      clear H1
                      by_cases c20 : t130 = true
                      · subst c20
                        have H1 : (if t127 ≤ 0 then (if t129 ≥ x10_2 then (feed_limit.l0 k2 t129 true t117 (t117.length : Int) (wrap64 (x46_2 + 1))) else (feed_limit.l0 k2 x10_2 x11_2 t117 (t117.length : Int) (wrap64 (x46_2 + 1)))) else (feed_limit.l0 k2 x10_2 x11_2 t117 (t117.length : Int) (wrap64 (x46_2 + 1)))) = some (r1, r2) := by rw [if_pos rfl] at H; exact H
                        clear H
                        have H := H1
                        clear H1
                        by_cases c21 : t127 ≤ 0
                        · rw [if_pos c21] at H
                          have c21b0 : decide (t127 ≤ 0) = true := decide_eq_true c21
                          clear c21
                          by_cases c22 : t129 ≥ x10_2
                          · rw [if_pos c22] at H
                            have c22b0 : decide (x10_2 ≤ t129) = true := decide_eq_true c22
                            clear c22
                            have H' := Aside0.mk H
                            clear H
                            have p125 : 0 ≤ (x46_2 : Int) := of_decide_eq_true (by first | (with_reducible assumption) | assumption)
                            have q125 : x46_2 < (t117.length : Int) := of_decide_eq_true (by first | (with_reducible assumption) | assumption)
                            obtain ⟨ad125, A125_4, c125_4, e125, hx125_0, hx125_1, hx125_2, hx125_3, hx125_4, hl125_4, hi125_4⟩ := at_T56 (Kd.S_reads' HO_44.out).2.2 x46_2 p125 q125
                            cases e125
                            obtain ⟨ce125, hce125, hMe125, hcc125⟩ := Kd.S_get HO_44.out z56 x46_2 p125 (by first | exact q125 | exact of_decide_eq_true (by first | (with_reducible assumption) | assumption) | (have e_ := (Kd.S_reads' HO_44.out).1; omega))
                            obtain ⟨ve125_4, rfl, ge125_4⟩ := k56_openM hMe125
                            have hv125_4 := hcc125 4 _ rfl
                            rw [add_field _ _ 4 (by omega)] at hv125_4
                            replace hv125_4 := Option.some.inj (hv125_4.symm.trans hx125_4)
                            rw [hv125_4] at ge125_4
                            have HL125_4 := Aside0.mk (show Kd.R k87 87 _ _ _ _ ((rd_T56 t117 x46_2).f2) from ge125_4)
                            clear hv125_4 ge125_4
                            clear hcc125 hce125
                            have HR125_4 := Aside0.mk hi125_4
                            have HC125_4 := Aside0.mk hl125_4
                            clear hi125_4 hl125_4
                            replace p125 := eq_true p125
                            replace q125 := eq_true q125
                            go_wp2_with (first | ((with_reducible refine gate_dst (N := 13) rfl ?_); refine box_event ?hg (N := 13) ?hd (cs := #[.string (⟨#[]⟩ : ByteArray), .int .i64 0, .int .i64 0, .string (⟨#[]⟩ : ByteArray), .slice none 0 0]) (t := 56) ?hr ?_; (case hd => rfl); (case hg => rfl); (case hr => first | (go_simp; done) | (go_simp; rfl)); intro gb126 hg w23 hbox hb; have n0_ := Aside0.mk (Kd.S_below (Kd.S_elderB (by (with_reducible repeat (first | apply Kd.S_alloc | apply Kd.S_drewN | apply Kd.S_drew)); exact HO_44.out) gb126 (Nat.le_of_eq hg.symm)) hb); have n1_ := Aside0.mk (Kd.R_below (by (with_reducible repeat (first | apply Kd.R_alloc | apply Kd.R_drewN | apply Kd.R_drew)); exact HL125_4.out) hb); have n2_ := Aside0.mk (Kd.C_below (by repeat (first | (with_reducible exact HR125_4.out) | (with_reducible refine Kd.C_alloc ?_ _) | (with_reducible refine Kd.C_drewN ?_ _) | (with_reducible refine Kd.C_drew ?_) | exact HR125_4.out)) hb); have n3_ := Aside0.mk (below_step (by repeat (first | (with_reducible first | exact HB.out | apply below_alloc | apply pw_below_drewN | apply below_drew1) | exact HB.out)) hb); have n4_ := Aside0.mk (hbox); have n5_ := Aside0.mk ((by rw [hg]; exact (below_size (by repeat (first | (with_reducible first | exact HB.out | apply below_alloc | apply pw_below_drewN | apply below_drew1) | exact HB.out))) : w.heap.size ≤ gb126)); have n6_ := Aside0.mk ((by rw [hg]; exact (below_size (by repeat (first | (with_reducible first | exact HB.out | apply below_alloc | apply pw_below_drewN | apply below_drew1) | exact HB.out))) : w.heap.size ≤ gb126)); clear HO_44; clear HL125_4; clear HR125_4; clear HB; have HO_44 := n0_; have HL125_4 := n1_; have HR125_4 := n2_; have HB := n3_; have BK126 := n4_; have GW126 := n5_; have GE126 := n6_; clear n0_ n1_ n2_ n3_ n4_ n5_ n6_; clear hb hbox hg; have hcz24_0 : w23.cell? ⟨gb126, 0, none⟩ = some (.string (⟨#[]⟩ : ByteArray)) := (blk_cell BK126.out 0).trans rfl; have hcz24_1 : w23.cell? ⟨gb126, 1, none⟩ = some (.int .i64 0) := (blk_cell BK126.out 1).trans rfl; have hcz24_2 : w23.cell? ⟨gb126, 2, none⟩ = some (.int .i64 0) := (blk_cell BK126.out 2).trans rfl; have hcz24_3 : w23.cell? ⟨gb126, 3, none⟩ = some (.string (⟨#[]⟩ : ByteArray)) := (blk_cell BK126.out 3).trans rfl; have hcz24_4 : w23.cell? ⟨gb126, 4, none⟩ = some (.slice none 0 0) := (blk_cell BK126.out 4).trans rfl; have hfz24_0 := blk_frozen BK126.out 0; have hfz24_1 := blk_frozen BK126.out 1; have hfz24_2 := blk_frozen BK126.out 2; have hfz24_3 := blk_frozen BK126.out 3; have hfz24_4 := blk_frozen BK126.out 4) | ((with_reducible refine gate_callee (f := 34) rfl ?_); refine goesL_ (some 52) rfl rfl Tryz.func34 (by kernel_rfl) rfl #[.agg #[.string ((rd_T56 t117 x46_2).f0), .int .i64 ((rd_T56 t117 x46_2).f1.f0), .int .i64 ((rd_T56 t117 x46_2).f1.f1), .string ((rd_T56 t117 x46_2).f1.f2), .slice A125_4 ((rd_T56 t117 x46_2).f2).length c125_4], .string (⟨#[114]⟩ : ByteArray)] rfl (by (try simp only [List.map_toArray, List.map_cons, List.map_nil]); first | done | rfl | (simp only [List.length_drop, List.length_take]; rfl)) ?_; (with_reducible refine (field_Param.calls k2 ((rd_T56 t117 x46_2).f0) ((rd_T56 t117 x46_2).f1.f0) ((rd_T56 t117 x46_2).f1.f1) ((rd_T56 t117 x46_2).f1.f2) _ _ ((rd_T56 t117 x46_2).f2) (⟨#[114]⟩ : ByteArray) t127 true _ ?side1 ?side2 A17.out).mono ?_); (case side1 => repeat (first | exact ((Kd.R_reads' (by (with_reducible repeat (first | apply Kd.R_alloc | apply Kd.R_drewN | apply Kd.R_drew)); exact (Kd.R_mono (Kd.R_far (p := ⟨gb126, 4, none⟩) (Kd.R_far (p := ⟨gb126, 3, none⟩) (Kd.R_far (p := ⟨gb126, 2, none⟩) (Kd.R_far (p := ⟨gb126, 1, none⟩) (Kd.R_far (p := ⟨gb126, 0, none⟩) (Kd.R_types HL125_4.out BK126.out (by decide)) (fun _ hk => hk.2) (.string ((rd_T56 t117 x46_2).f0))) (fun _ hk => hk.2) (.int .i64 ((rd_T56 t117 x46_2).f1.f0))) (fun _ hk => hk.2) (.int .i64 ((rd_T56 t117 x46_2).f1.f1))) (fun _ hk => hk.2) (.string ((rd_T56 t117 x46_2).f1.f2))) (fun _ hk => hk.2) (.slice A125_4 ((rd_T56 t117 x46_2).f2).length c125_4)) (fun _ h_ => h_.1)))).2.2) | (with_reducible refine Kd.C_alloc ?_ _) | (with_reducible refine Kd.C_drewN ?_ _) | (with_reducible refine Kd.C_drew ?_))); (case side2 => exact HC125_4.out); rintro e w25 ⟨rfl, hb⟩; refine ⟨_, rfl, ?_⟩; have n0_ := Aside0.mk (Kd.S_below (by (with_reducible repeat (first | apply Kd.S_alloc | apply Kd.S_drewN | apply Kd.S_drew)); exact (Kd.S_mono (Kd.S_far (p := ⟨gb126, 4, none⟩) (Kd.S_far (p := ⟨gb126, 3, none⟩) (Kd.S_far (p := ⟨gb126, 2, none⟩) (Kd.S_far (p := ⟨gb126, 1, none⟩) (Kd.S_far (p := ⟨gb126, 0, none⟩) (Kd.S_mono HO_44.out (fun k_ hk => (⟨hk, hk.2⟩ : _ ∧ k_ ≠ gb126))) (fun _ hk => hk.2) (.string ((rd_T56 t117 x46_2).f0))) (fun _ hk => hk.2) (.int .i64 ((rd_T56 t117 x46_2).f1.f0))) (fun _ hk => hk.2) (.int .i64 ((rd_T56 t117 x46_2).f1.f1))) (fun _ hk => hk.2) (.string ((rd_T56 t117 x46_2).f1.f2))) (fun _ hk => hk.2) (.slice A125_4 ((rd_T56 t117 x46_2).f2).length c125_4)) (fun _ h_ => h_.1))) hb); have n1_ := Aside0.mk (Kd.R_below (by (with_reducible repeat (first | apply Kd.R_alloc | apply Kd.R_drewN | apply Kd.R_drew)); exact (Kd.R_mono (Kd.R_far (p := ⟨gb126, 4, none⟩) (Kd.R_far (p := ⟨gb126, 3, none⟩) (Kd.R_far (p := ⟨gb126, 2, none⟩) (Kd.R_far (p := ⟨gb126, 1, none⟩) (Kd.R_far (p := ⟨gb126, 0, none⟩) (Kd.R_types HL125_4.out BK126.out (by decide)) (fun _ hk => hk.2) (.string ((rd_T56 t117 x46_2).f0))) (fun _ hk => hk.2) (.int .i64 ((rd_T56 t117 x46_2).f1.f0))) (fun _ hk => hk.2) (.int .i64 ((rd_T56 t117 x46_2).f1.f1))) (fun _ hk => hk.2) (.string ((rd_T56 t117 x46_2).f1.f2))) (fun _ hk => hk.2) (.slice A125_4 ((rd_T56 t117 x46_2).f2).length c125_4)) (fun _ h_ => h_.1))) hb); have n2_ := Aside0.mk (Kd.C_below ((Kd.R_reads' (by (with_reducible repeat (first | apply Kd.R_alloc | apply Kd.R_drewN | apply Kd.R_drew)); exact (Kd.R_mono (Kd.R_far (p := ⟨gb126, 4, none⟩) (Kd.R_far (p := ⟨gb126, 3, none⟩) (Kd.R_far (p := ⟨gb126, 2, none⟩) (Kd.R_far (p := ⟨gb126, 1, none⟩) (Kd.R_far (p := ⟨gb126, 0, none⟩) (Kd.R_types HL125_4.out BK126.out (by decide)) (fun _ hk => hk.2) (.string ((rd_T56 t117 x46_2).f0))) (fun _ hk => hk.2) (.int .i64 ((rd_T56 t117 x46_2).f1.f0))) (fun _ hk => hk.2) (.int .i64 ((rd_T56 t117 x46_2).f1.f1))) (fun _ hk => hk.2) (.string ((rd_T56 t117 x46_2).f1.f2))) (fun _ hk => hk.2) (.slice A125_4 ((rd_T56 t117 x46_2).f2).length c125_4)) (fun _ h_ => h_.1)))).2.2) hb); have n3_ := Aside0.mk (blk_below (g := gb126) (o := .cells #[.string ((rd_T56 t117 x46_2).f0), .int .i64 ((rd_T56 t117 x46_2).f1.f0), .int .i64 ((rd_T56 t117 x46_2).f1.f1), .string ((rd_T56 t117 x46_2).f1.f2), .slice A125_4 ((rd_T56 t117 x46_2).f2).length c125_4] 56 (0, 0)) (by (with_reducible repeat (first | refine blk_drewN ?_ _ | refine blk_drew ?_ | refine blk_alloc ?_ _)); refine blk_put (cs := #[.string ((rd_T56 t117 x46_2).f0), .int .i64 ((rd_T56 t117 x46_2).f1.f0), .int .i64 ((rd_T56 t117 x46_2).f1.f1), .string ((rd_T56 t117 x46_2).f1.f2), .slice none 0 0]) ?_ 4 _ rfl; (with_reducible repeat (first | refine blk_drewN ?_ _ | refine blk_drew ?_ | refine blk_alloc ?_ _)); refine blk_put (cs := #[.string ((rd_T56 t117 x46_2).f0), .int .i64 ((rd_T56 t117 x46_2).f1.f0), .int .i64 ((rd_T56 t117 x46_2).f1.f1), .string (⟨#[]⟩ : ByteArray), .slice none 0 0]) ?_ 3 _ rfl; (with_reducible repeat (first | refine blk_drewN ?_ _ | refine blk_drew ?_ | refine blk_alloc ?_ _)); refine blk_put (cs := #[.string ((rd_T56 t117 x46_2).f0), .int .i64 ((rd_T56 t117 x46_2).f1.f0), .int .i64 0, .string (⟨#[]⟩ : ByteArray), .slice none 0 0]) ?_ 2 _ rfl; (with_reducible repeat (first | refine blk_drewN ?_ _ | refine blk_drew ?_ | refine blk_alloc ?_ _)); refine blk_put (cs := #[.string ((rd_T56 t117 x46_2).f0), .int .i64 0, .int .i64 0, .string (⟨#[]⟩ : ByteArray), .slice none 0 0]) ?_ 1 _ rfl; (with_reducible repeat (first | refine blk_drewN ?_ _ | refine blk_drew ?_ | refine blk_alloc ?_ _)); refine blk_put (cs := #[.string (⟨#[]⟩ : ByteArray), .int .i64 0, .int .i64 0, .string (⟨#[]⟩ : ByteArray), .slice none 0 0]) ?_ 0 _ rfl; (with_reducible repeat (first | refine blk_drewN ?_ _ | refine blk_drew ?_ | refine blk_alloc ?_ _)); exact BK126.out) hb); have n4_ := Aside0.mk (below_step (by repeat (first | (with_reducible first | exact HB.out | apply below_alloc | apply pw_below_drewN | apply below_drew1 | refine below_set ?_ GE126.out) | exact HB.out)) hb); clear HO_44; clear HL125_4; clear HR125_4; clear BK126; clear HB; have HO_44 := n0_; have HL125_4 := n1_; have HR125_4 := n2_; have BK126 := n3_; have HB := n4_; clear n0_ n1_ n2_ n3_ n4_; (try clear hb); (try clear hb2); (try clear hk); (try clear hi); have hcz26_0 : w25.cell? ⟨gb126, 0, none⟩ = some (.string ((rd_T56 t117 x46_2).f0)) := (blk_cell BK126.out 0).trans rfl; have hcz26_1 : w25.cell? ⟨gb126, 1, none⟩ = some (.int .i64 ((rd_T56 t117 x46_2).f1.f0)) := (blk_cell BK126.out 1).trans rfl; have hcz26_2 : w25.cell? ⟨gb126, 2, none⟩ = some (.int .i64 ((rd_T56 t117 x46_2).f1.f1)) := (blk_cell BK126.out 2).trans rfl; have hcz26_3 : w25.cell? ⟨gb126, 3, none⟩ = some (.string ((rd_T56 t117 x46_2).f1.f2)) := (blk_cell BK126.out 3).trans rfl; have hcz26_4 : w25.cell? ⟨gb126, 4, none⟩ = some (.slice A125_4 ((rd_T56 t117 x46_2).f2).length c125_4) := (blk_cell BK126.out 4).trans rfl; have hfz26_0 := blk_frozen BK126.out 0; have hfz26_1 := blk_frozen BK126.out 1; have hfz26_2 := blk_frozen BK126.out 2; have hfz26_3 := blk_frozen BK126.out 3; have hfz26_4 := blk_frozen BK126.out 4) | ((with_reducible refine gate_callee (f := 34) rfl ?_); refine goesL_ (some 57) rfl rfl Tryz.func34 (by kernel_rfl) rfl #[.agg #[.string ((rd_T56 t117 x46_2).f0), .int .i64 ((rd_T56 t117 x46_2).f1.f0), .int .i64 ((rd_T56 t117 x46_2).f1.f1), .string ((rd_T56 t117 x46_2).f1.f2), .slice A125_4 ((rd_T56 t117 x46_2).f2).length c125_4], .string (⟨#[116]⟩ : ByteArray)] rfl (by (try simp only [List.map_toArray, List.map_cons, List.map_nil]); first | done | rfl | (simp only [List.length_drop, List.length_take]; rfl)) ?_; (with_reducible refine (field_Param.calls k2 ((rd_T56 t117 x46_2).f0) ((rd_T56 t117 x46_2).f1.f0) ((rd_T56 t117 x46_2).f1.f1) ((rd_T56 t117 x46_2).f1.f2) _ _ ((rd_T56 t117 x46_2).f2) (⟨#[116]⟩ : ByteArray) t129 true _ ?side1 ?side2 A18.out).mono ?_); (case side1 => repeat (first | exact (by repeat (first | (with_reducible exact HR125_4.out) | (with_reducible refine Kd.C_alloc ?_ _) | (with_reducible refine Kd.C_drewN ?_ _) | (with_reducible refine Kd.C_drew ?_) | exact HR125_4.out)) | (with_reducible refine Kd.C_alloc ?_ _) | (with_reducible refine Kd.C_drewN ?_ _) | (with_reducible refine Kd.C_drew ?_))); (case side2 => exact HC125_4.out); rintro e w27 ⟨rfl, hb⟩; refine ⟨_, rfl, ?_⟩; have n0_ := Aside0.mk (Kd.S_below (by (with_reducible repeat (first | apply Kd.S_alloc | apply Kd.S_drewN | apply Kd.S_drew)); exact HO_44.out) hb); have n1_ := Aside0.mk (Kd.R_below (by (with_reducible repeat (first | apply Kd.R_alloc | apply Kd.R_drewN | apply Kd.R_drew)); exact HL125_4.out) hb); have n2_ := Aside0.mk (Kd.C_below (by repeat (first | (with_reducible exact HR125_4.out) | (with_reducible refine Kd.C_alloc ?_ _) | (with_reducible refine Kd.C_drewN ?_ _) | (with_reducible refine Kd.C_drew ?_) | exact HR125_4.out)) hb); have n3_ := Aside0.mk (blk_below (g := gb126) (o := .cells #[.string ((rd_T56 t117 x46_2).f0), .int .i64 ((rd_T56 t117 x46_2).f1.f0), .int .i64 ((rd_T56 t117 x46_2).f1.f1), .string ((rd_T56 t117 x46_2).f1.f2), .slice A125_4 ((rd_T56 t117 x46_2).f2).length c125_4] 56 (0, 0)) (by (with_reducible repeat (first | refine blk_drewN ?_ _ | refine blk_drew ?_ | refine blk_alloc ?_ _)); exact BK126.out) hb); have n4_ := Aside0.mk (below_step (by repeat (first | (with_reducible first | exact HB.out | apply below_alloc | apply pw_below_drewN | apply below_drew1 | refine below_set ?_ GE126.out) | exact HB.out)) hb); clear HO_44; clear HL125_4; clear HR125_4; clear BK126; clear HB; have HO_44 := n0_; have HL125_4 := n1_; have HR125_4 := n2_; have BK126 := n3_; have HB := n4_; clear n0_ n1_ n2_ n3_ n4_; (try clear hb); (try clear hb2); (try clear hk); (try clear hi)))
                            go_roundg k2
                            case measure => have := HJ5.out; have := HK2.out; omega
                            case rel => exact ⟨(t129), (true), (wrap64 (x46_2 + 1)), (by first | rfl | (simp; done) | (simp [*]; done)), (by first | rfl | (simp; done) | (simp [*]; done)), (by first | rfl | (simp; done) | (simp [*]; done)), H', ⟨by have := HJ5.out; have := HK2.out; omega⟩, ⟨by (with_reducible repeat (first | apply Kd.S_alloc | apply Kd.S_drewN | apply Kd.S_drew)); exact Kd.S_mono HO_44.out (fun _ hk => trivial)⟩, ⟨by repeat (first | (with_reducible first | exact HB.out | apply below_alloc | apply pw_below_drewN | apply below_drew1 | refine below_set ?_ GE126.out) | exact HB.out)⟩⟩
                          · rw [if_neg c22] at H
                            have c22b0 : decide (x10_2 ≤ t129) = false := decide_eq_false c22
                            clear c22
                            have H' := Aside0.mk H
                            clear H
                            have p125 : 0 ≤ (x46_2 : Int) := of_decide_eq_true (by first | (with_reducible assumption) | assumption)
                            have q125 : x46_2 < (t117.length : Int) := of_decide_eq_true (by first | (with_reducible assumption) | assumption)
                            obtain ⟨ad125, A125_4, c125_4, e125, hx125_0, hx125_1, hx125_2, hx125_3, hx125_4, hl125_4, hi125_4⟩ := at_T56 (Kd.S_reads' HO_44.out).2.2 x46_2 p125 q125
                            cases e125
                            obtain ⟨ce125, hce125, hMe125, hcc125⟩ := Kd.S_get HO_44.out z56 x46_2 p125 (by first | exact q125 | exact of_decide_eq_true (by first | (with_reducible assumption) | assumption) | (have e_ := (Kd.S_reads' HO_44.out).1; omega))
                            obtain ⟨ve125_4, rfl, ge125_4⟩ := k56_openM hMe125
                            have hv125_4 := hcc125 4 _ rfl
                            rw [add_field _ _ 4 (by omega)] at hv125_4
                            replace hv125_4 := Option.some.inj (hv125_4.symm.trans hx125_4)
                            rw [hv125_4] at ge125_4
                            have HL125_4 := Aside0.mk (show Kd.R k87 87 _ _ _ _ ((rd_T56 t117 x46_2).f2) from ge125_4)
                            clear hv125_4 ge125_4
                            clear hcc125 hce125
                            have HR125_4 := Aside0.mk hi125_4
                            have HC125_4 := Aside0.mk hl125_4
                            clear hi125_4 hl125_4
                            replace p125 := eq_true p125
                            replace q125 := eq_true q125
                            go_wp2_with (first | ((with_reducible refine gate_dst (N := 13) rfl ?_); refine box_event ?hg (N := 13) ?hd (cs := #[.string (⟨#[]⟩ : ByteArray), .int .i64 0, .int .i64 0, .string (⟨#[]⟩ : ByteArray), .slice none 0 0]) (t := 56) ?hr ?_; (case hd => rfl); (case hg => rfl); (case hr => first | (go_simp; done) | (go_simp; rfl)); intro gb126 hg w28 hbox hb; have n0_ := Aside0.mk (Kd.S_below (Kd.S_elderB (by (with_reducible repeat (first | apply Kd.S_alloc | apply Kd.S_drewN | apply Kd.S_drew)); exact HO_44.out) gb126 (Nat.le_of_eq hg.symm)) hb); have n1_ := Aside0.mk (Kd.R_below (by (with_reducible repeat (first | apply Kd.R_alloc | apply Kd.R_drewN | apply Kd.R_drew)); exact HL125_4.out) hb); have n2_ := Aside0.mk (Kd.C_below (by repeat (first | (with_reducible exact HR125_4.out) | (with_reducible refine Kd.C_alloc ?_ _) | (with_reducible refine Kd.C_drewN ?_ _) | (with_reducible refine Kd.C_drew ?_) | exact HR125_4.out)) hb); have n3_ := Aside0.mk (below_step (by repeat (first | (with_reducible first | exact HB.out | apply below_alloc | apply pw_below_drewN | apply below_drew1) | exact HB.out)) hb); have n4_ := Aside0.mk (hbox); have n5_ := Aside0.mk ((by rw [hg]; exact (below_size (by repeat (first | (with_reducible first | exact HB.out | apply below_alloc | apply pw_below_drewN | apply below_drew1) | exact HB.out))) : w.heap.size ≤ gb126)); have n6_ := Aside0.mk ((by rw [hg]; exact (below_size (by repeat (first | (with_reducible first | exact HB.out | apply below_alloc | apply pw_below_drewN | apply below_drew1) | exact HB.out))) : w.heap.size ≤ gb126)); clear HO_44; clear HL125_4; clear HR125_4; clear HB; have HO_44 := n0_; have HL125_4 := n1_; have HR125_4 := n2_; have HB := n3_; have BK126 := n4_; have GW126 := n5_; have GE126 := n6_; clear n0_ n1_ n2_ n3_ n4_ n5_ n6_; clear hb hbox hg; have hcz29_0 : w28.cell? ⟨gb126, 0, none⟩ = some (.string (⟨#[]⟩ : ByteArray)) := (blk_cell BK126.out 0).trans rfl; have hcz29_1 : w28.cell? ⟨gb126, 1, none⟩ = some (.int .i64 0) := (blk_cell BK126.out 1).trans rfl; have hcz29_2 : w28.cell? ⟨gb126, 2, none⟩ = some (.int .i64 0) := (blk_cell BK126.out 2).trans rfl; have hcz29_3 : w28.cell? ⟨gb126, 3, none⟩ = some (.string (⟨#[]⟩ : ByteArray)) := (blk_cell BK126.out 3).trans rfl; have hcz29_4 : w28.cell? ⟨gb126, 4, none⟩ = some (.slice none 0 0) := (blk_cell BK126.out 4).trans rfl; have hfz29_0 := blk_frozen BK126.out 0; have hfz29_1 := blk_frozen BK126.out 1; have hfz29_2 := blk_frozen BK126.out 2; have hfz29_3 := blk_frozen BK126.out 3; have hfz29_4 := blk_frozen BK126.out 4) | ((with_reducible refine gate_callee (f := 34) rfl ?_); refine goesL_ (some 52) rfl rfl Tryz.func34 (by kernel_rfl) rfl #[.agg #[.string ((rd_T56 t117 x46_2).f0), .int .i64 ((rd_T56 t117 x46_2).f1.f0), .int .i64 ((rd_T56 t117 x46_2).f1.f1), .string ((rd_T56 t117 x46_2).f1.f2), .slice A125_4 ((rd_T56 t117 x46_2).f2).length c125_4], .string (⟨#[114]⟩ : ByteArray)] rfl (by (try simp only [List.map_toArray, List.map_cons, List.map_nil]); first | done | rfl | (simp only [List.length_drop, List.length_take]; rfl)) ?_; (with_reducible refine (field_Param.calls k2 ((rd_T56 t117 x46_2).f0) ((rd_T56 t117 x46_2).f1.f0) ((rd_T56 t117 x46_2).f1.f1) ((rd_T56 t117 x46_2).f1.f2) _ _ ((rd_T56 t117 x46_2).f2) (⟨#[114]⟩ : ByteArray) t127 true _ ?side1 ?side2 A17.out).mono ?_); (case side1 => repeat (first | exact ((Kd.R_reads' (by (with_reducible repeat (first | apply Kd.R_alloc | apply Kd.R_drewN | apply Kd.R_drew)); exact (Kd.R_mono (Kd.R_far (p := ⟨gb126, 4, none⟩) (Kd.R_far (p := ⟨gb126, 3, none⟩) (Kd.R_far (p := ⟨gb126, 2, none⟩) (Kd.R_far (p := ⟨gb126, 1, none⟩) (Kd.R_far (p := ⟨gb126, 0, none⟩) (Kd.R_types HL125_4.out BK126.out (by decide)) (fun _ hk => hk.2) (.string ((rd_T56 t117 x46_2).f0))) (fun _ hk => hk.2) (.int .i64 ((rd_T56 t117 x46_2).f1.f0))) (fun _ hk => hk.2) (.int .i64 ((rd_T56 t117 x46_2).f1.f1))) (fun _ hk => hk.2) (.string ((rd_T56 t117 x46_2).f1.f2))) (fun _ hk => hk.2) (.slice A125_4 ((rd_T56 t117 x46_2).f2).length c125_4)) (fun _ h_ => h_.1)))).2.2) | (with_reducible refine Kd.C_alloc ?_ _) | (with_reducible refine Kd.C_drewN ?_ _) | (with_reducible refine Kd.C_drew ?_))); (case side2 => exact HC125_4.out); rintro e w30 ⟨rfl, hb⟩; refine ⟨_, rfl, ?_⟩; have n0_ := Aside0.mk (Kd.S_below (by (with_reducible repeat (first | apply Kd.S_alloc | apply Kd.S_drewN | apply Kd.S_drew)); exact (Kd.S_mono (Kd.S_far (p := ⟨gb126, 4, none⟩) (Kd.S_far (p := ⟨gb126, 3, none⟩) (Kd.S_far (p := ⟨gb126, 2, none⟩) (Kd.S_far (p := ⟨gb126, 1, none⟩) (Kd.S_far (p := ⟨gb126, 0, none⟩) (Kd.S_mono HO_44.out (fun k_ hk => (⟨hk, hk.2⟩ : _ ∧ k_ ≠ gb126))) (fun _ hk => hk.2) (.string ((rd_T56 t117 x46_2).f0))) (fun _ hk => hk.2) (.int .i64 ((rd_T56 t117 x46_2).f1.f0))) (fun _ hk => hk.2) (.int .i64 ((rd_T56 t117 x46_2).f1.f1))) (fun _ hk => hk.2) (.string ((rd_T56 t117 x46_2).f1.f2))) (fun _ hk => hk.2) (.slice A125_4 ((rd_T56 t117 x46_2).f2).length c125_4)) (fun _ h_ => h_.1))) hb); have n1_ := Aside0.mk (Kd.R_below (by (with_reducible repeat (first | apply Kd.R_alloc | apply Kd.R_drewN | apply Kd.R_drew)); exact (Kd.R_mono (Kd.R_far (p := ⟨gb126, 4, none⟩) (Kd.R_far (p := ⟨gb126, 3, none⟩) (Kd.R_far (p := ⟨gb126, 2, none⟩) (Kd.R_far (p := ⟨gb126, 1, none⟩) (Kd.R_far (p := ⟨gb126, 0, none⟩) (Kd.R_types HL125_4.out BK126.out (by decide)) (fun _ hk => hk.2) (.string ((rd_T56 t117 x46_2).f0))) (fun _ hk => hk.2) (.int .i64 ((rd_T56 t117 x46_2).f1.f0))) (fun _ hk => hk.2) (.int .i64 ((rd_T56 t117 x46_2).f1.f1))) (fun _ hk => hk.2) (.string ((rd_T56 t117 x46_2).f1.f2))) (fun _ hk => hk.2) (.slice A125_4 ((rd_T56 t117 x46_2).f2).length c125_4)) (fun _ h_ => h_.1))) hb); have n2_ := Aside0.mk (Kd.C_below ((Kd.R_reads' (by (with_reducible repeat (first | apply Kd.R_alloc | apply Kd.R_drewN | apply Kd.R_drew)); exact (Kd.R_mono (Kd.R_far (p := ⟨gb126, 4, none⟩) (Kd.R_far (p := ⟨gb126, 3, none⟩) (Kd.R_far (p := ⟨gb126, 2, none⟩) (Kd.R_far (p := ⟨gb126, 1, none⟩) (Kd.R_far (p := ⟨gb126, 0, none⟩) (Kd.R_types HL125_4.out BK126.out (by decide)) (fun _ hk => hk.2) (.string ((rd_T56 t117 x46_2).f0))) (fun _ hk => hk.2) (.int .i64 ((rd_T56 t117 x46_2).f1.f0))) (fun _ hk => hk.2) (.int .i64 ((rd_T56 t117 x46_2).f1.f1))) (fun _ hk => hk.2) (.string ((rd_T56 t117 x46_2).f1.f2))) (fun _ hk => hk.2) (.slice A125_4 ((rd_T56 t117 x46_2).f2).length c125_4)) (fun _ h_ => h_.1)))).2.2) hb); have n3_ := Aside0.mk (blk_below (g := gb126) (o := .cells #[.string ((rd_T56 t117 x46_2).f0), .int .i64 ((rd_T56 t117 x46_2).f1.f0), .int .i64 ((rd_T56 t117 x46_2).f1.f1), .string ((rd_T56 t117 x46_2).f1.f2), .slice A125_4 ((rd_T56 t117 x46_2).f2).length c125_4] 56 (0, 0)) (by (with_reducible repeat (first | refine blk_drewN ?_ _ | refine blk_drew ?_ | refine blk_alloc ?_ _)); refine blk_put (cs := #[.string ((rd_T56 t117 x46_2).f0), .int .i64 ((rd_T56 t117 x46_2).f1.f0), .int .i64 ((rd_T56 t117 x46_2).f1.f1), .string ((rd_T56 t117 x46_2).f1.f2), .slice none 0 0]) ?_ 4 _ rfl; (with_reducible repeat (first | refine blk_drewN ?_ _ | refine blk_drew ?_ | refine blk_alloc ?_ _)); refine blk_put (cs := #[.string ((rd_T56 t117 x46_2).f0), .int .i64 ((rd_T56 t117 x46_2).f1.f0), .int .i64 ((rd_T56 t117 x46_2).f1.f1), .string (⟨#[]⟩ : ByteArray), .slice none 0 0]) ?_ 3 _ rfl; (with_reducible repeat (first | refine blk_drewN ?_ _ | refine blk_drew ?_ | refine blk_alloc ?_ _)); refine blk_put (cs := #[.string ((rd_T56 t117 x46_2).f0), .int .i64 ((rd_T56 t117 x46_2).f1.f0), .int .i64 0, .string (⟨#[]⟩ : ByteArray), .slice none 0 0]) ?_ 2 _ rfl; (with_reducible repeat (first | refine blk_drewN ?_ _ | refine blk_drew ?_ | refine blk_alloc ?_ _)); refine blk_put (cs := #[.string ((rd_T56 t117 x46_2).f0), .int .i64 0, .int .i64 0, .string (⟨#[]⟩ : ByteArray), .slice none 0 0]) ?_ 1 _ rfl; (with_reducible repeat (first | refine blk_drewN ?_ _ | refine blk_drew ?_ | refine blk_alloc ?_ _)); refine blk_put (cs := #[.string (⟨#[]⟩ : ByteArray), .int .i64 0, .int .i64 0, .string (⟨#[]⟩ : ByteArray), .slice none 0 0]) ?_ 0 _ rfl; (with_reducible repeat (first | refine blk_drewN ?_ _ | refine blk_drew ?_ | refine blk_alloc ?_ _)); exact BK126.out) hb); have n4_ := Aside0.mk (below_step (by repeat (first | (with_reducible first | exact HB.out | apply below_alloc | apply pw_below_drewN | apply below_drew1 | refine below_set ?_ GE126.out) | exact HB.out)) hb); clear HO_44; clear HL125_4; clear HR125_4; clear BK126; clear HB; have HO_44 := n0_; have HL125_4 := n1_; have HR125_4 := n2_; have BK126 := n3_; have HB := n4_; clear n0_ n1_ n2_ n3_ n4_; (try clear hb); (try clear hb2); (try clear hk); (try clear hi); have hcz31_0 : w30.cell? ⟨gb126, 0, none⟩ = some (.string ((rd_T56 t117 x46_2).f0)) := (blk_cell BK126.out 0).trans rfl; have hcz31_1 : w30.cell? ⟨gb126, 1, none⟩ = some (.int .i64 ((rd_T56 t117 x46_2).f1.f0)) := (blk_cell BK126.out 1).trans rfl; have hcz31_2 : w30.cell? ⟨gb126, 2, none⟩ = some (.int .i64 ((rd_T56 t117 x46_2).f1.f1)) := (blk_cell BK126.out 2).trans rfl; have hcz31_3 : w30.cell? ⟨gb126, 3, none⟩ = some (.string ((rd_T56 t117 x46_2).f1.f2)) := (blk_cell BK126.out 3).trans rfl; have hcz31_4 : w30.cell? ⟨gb126, 4, none⟩ = some (.slice A125_4 ((rd_T56 t117 x46_2).f2).length c125_4) := (blk_cell BK126.out 4).trans rfl; have hfz31_0 := blk_frozen BK126.out 0; have hfz31_1 := blk_frozen BK126.out 1; have hfz31_2 := blk_frozen BK126.out 2; have hfz31_3 := blk_frozen BK126.out 3; have hfz31_4 := blk_frozen BK126.out 4) | ((with_reducible refine gate_callee (f := 34) rfl ?_); refine goesL_ (some 57) rfl rfl Tryz.func34 (by kernel_rfl) rfl #[.agg #[.string ((rd_T56 t117 x46_2).f0), .int .i64 ((rd_T56 t117 x46_2).f1.f0), .int .i64 ((rd_T56 t117 x46_2).f1.f1), .string ((rd_T56 t117 x46_2).f1.f2), .slice A125_4 ((rd_T56 t117 x46_2).f2).length c125_4], .string (⟨#[116]⟩ : ByteArray)] rfl (by (try simp only [List.map_toArray, List.map_cons, List.map_nil]); first | done | rfl | (simp only [List.length_drop, List.length_take]; rfl)) ?_; (with_reducible refine (field_Param.calls k2 ((rd_T56 t117 x46_2).f0) ((rd_T56 t117 x46_2).f1.f0) ((rd_T56 t117 x46_2).f1.f1) ((rd_T56 t117 x46_2).f1.f2) _ _ ((rd_T56 t117 x46_2).f2) (⟨#[116]⟩ : ByteArray) t129 true _ ?side1 ?side2 A18.out).mono ?_); (case side1 => repeat (first | exact (by repeat (first | (with_reducible exact HR125_4.out) | (with_reducible refine Kd.C_alloc ?_ _) | (with_reducible refine Kd.C_drewN ?_ _) | (with_reducible refine Kd.C_drew ?_) | exact HR125_4.out)) | (with_reducible refine Kd.C_alloc ?_ _) | (with_reducible refine Kd.C_drewN ?_ _) | (with_reducible refine Kd.C_drew ?_))); (case side2 => exact HC125_4.out); rintro e w32 ⟨rfl, hb⟩; refine ⟨_, rfl, ?_⟩; have n0_ := Aside0.mk (Kd.S_below (by (with_reducible repeat (first | apply Kd.S_alloc | apply Kd.S_drewN | apply Kd.S_drew)); exact HO_44.out) hb); have n1_ := Aside0.mk (Kd.R_below (by (with_reducible repeat (first | apply Kd.R_alloc | apply Kd.R_drewN | apply Kd.R_drew)); exact HL125_4.out) hb); have n2_ := Aside0.mk (Kd.C_below (by repeat (first | (with_reducible exact HR125_4.out) | (with_reducible refine Kd.C_alloc ?_ _) | (with_reducible refine Kd.C_drewN ?_ _) | (with_reducible refine Kd.C_drew ?_) | exact HR125_4.out)) hb); have n3_ := Aside0.mk (blk_below (g := gb126) (o := .cells #[.string ((rd_T56 t117 x46_2).f0), .int .i64 ((rd_T56 t117 x46_2).f1.f0), .int .i64 ((rd_T56 t117 x46_2).f1.f1), .string ((rd_T56 t117 x46_2).f1.f2), .slice A125_4 ((rd_T56 t117 x46_2).f2).length c125_4] 56 (0, 0)) (by (with_reducible repeat (first | refine blk_drewN ?_ _ | refine blk_drew ?_ | refine blk_alloc ?_ _)); exact BK126.out) hb); have n4_ := Aside0.mk (below_step (by repeat (first | (with_reducible first | exact HB.out | apply below_alloc | apply pw_below_drewN | apply below_drew1 | refine below_set ?_ GE126.out) | exact HB.out)) hb); clear HO_44; clear HL125_4; clear HR125_4; clear BK126; clear HB; have HO_44 := n0_; have HL125_4 := n1_; have HR125_4 := n2_; have BK126 := n3_; have HB := n4_; clear n0_ n1_ n2_ n3_ n4_; (try clear hb); (try clear hb2); (try clear hk); (try clear hi)))
                            go_roundg k2
                            case measure => have := HJ5.out; have := HK2.out; omega
                            case rel => exact ⟨(x10_2), (x11_2), (wrap64 (x46_2 + 1)), (by first | rfl | (simp; done) | (simp [*]; done)), (by first | rfl | (simp; done) | (simp [*]; done)), (by first | rfl | (simp; done) | (simp [*]; done)), H', ⟨by have := HJ5.out; have := HK2.out; omega⟩, ⟨by (with_reducible repeat (first | apply Kd.S_alloc | apply Kd.S_drewN | apply Kd.S_drew)); exact Kd.S_mono HO_44.out (fun _ hk => trivial)⟩, ⟨by repeat (first | (with_reducible first | exact HB.out | apply below_alloc | apply pw_below_drewN | apply below_drew1 | refine below_set ?_ GE126.out) | exact HB.out)⟩⟩
                        · rw [if_neg c21] at H
                          have c21b0 : decide (t127 ≤ 0) = false := decide_eq_false c21
                          clear c21
                          have H' := Aside0.mk H
                          clear H
                          have p125 : 0 ≤ (x46_2 : Int) := of_decide_eq_true (by first | (with_reducible assumption) | assumption)
                          have q125 : x46_2 < (t117.length : Int) := of_decide_eq_true (by first | (with_reducible assumption) | assumption)
                          obtain ⟨ad125, A125_4, c125_4, e125, hx125_0, hx125_1, hx125_2, hx125_3, hx125_4, hl125_4, hi125_4⟩ := at_T56 (Kd.S_reads' HO_44.out).2.2 x46_2 p125 q125
                          cases e125
                          obtain ⟨ce125, hce125, hMe125, hcc125⟩ := Kd.S_get HO_44.out z56 x46_2 p125 (by first | exact q125 | exact of_decide_eq_true (by first | (with_reducible assumption) | assumption) | (have e_ := (Kd.S_reads' HO_44.out).1; omega))
                          obtain ⟨ve125_4, rfl, ge125_4⟩ := k56_openM hMe125
                          have hv125_4 := hcc125 4 _ rfl
                          rw [add_field _ _ 4 (by omega)] at hv125_4
                          replace hv125_4 := Option.some.inj (hv125_4.symm.trans hx125_4)
                          rw [hv125_4] at ge125_4
                          have HL125_4 := Aside0.mk (show Kd.R k87 87 _ _ _ _ ((rd_T56 t117 x46_2).f2) from ge125_4)
                          clear hv125_4 ge125_4
                          clear hcc125 hce125
                          have HR125_4 := Aside0.mk hi125_4
                          have HC125_4 := Aside0.mk hl125_4
                          clear hi125_4 hl125_4
                          replace p125 := eq_true p125
                          replace q125 := eq_true q125
                          go_wp2_with (first | ((with_reducible refine gate_dst (N := 13) rfl ?_); refine box_event ?hg (N := 13) ?hd (cs := #[.string (⟨#[]⟩ : ByteArray), .int .i64 0, .int .i64 0, .string (⟨#[]⟩ : ByteArray), .slice none 0 0]) (t := 56) ?hr ?_; (case hd => rfl); (case hg => rfl); (case hr => first | (go_simp; done) | (go_simp; rfl)); intro gb126 hg w33 hbox hb; have n0_ := Aside0.mk (Kd.S_below (Kd.S_elderB (by (with_reducible repeat (first | apply Kd.S_alloc | apply Kd.S_drewN | apply Kd.S_drew)); exact HO_44.out) gb126 (Nat.le_of_eq hg.symm)) hb); have n1_ := Aside0.mk (Kd.R_below (by (with_reducible repeat (first | apply Kd.R_alloc | apply Kd.R_drewN | apply Kd.R_drew)); exact HL125_4.out) hb); have n2_ := Aside0.mk (Kd.C_below (by repeat (first | (with_reducible exact HR125_4.out) | (with_reducible refine Kd.C_alloc ?_ _) | (with_reducible refine Kd.C_drewN ?_ _) | (with_reducible refine Kd.C_drew ?_) | exact HR125_4.out)) hb); have n3_ := Aside0.mk (below_step (by repeat (first | (with_reducible first | exact HB.out | apply below_alloc | apply pw_below_drewN | apply below_drew1) | exact HB.out)) hb); have n4_ := Aside0.mk (hbox); have n5_ := Aside0.mk ((by rw [hg]; exact (below_size (by repeat (first | (with_reducible first | exact HB.out | apply below_alloc | apply pw_below_drewN | apply below_drew1) | exact HB.out))) : w.heap.size ≤ gb126)); have n6_ := Aside0.mk ((by rw [hg]; exact (below_size (by repeat (first | (with_reducible first | exact HB.out | apply below_alloc | apply pw_below_drewN | apply below_drew1) | exact HB.out))) : w.heap.size ≤ gb126)); clear HO_44; clear HL125_4; clear HR125_4; clear HB; have HO_44 := n0_; have HL125_4 := n1_; have HR125_4 := n2_; have HB := n3_; have BK126 := n4_; have GW126 := n5_; have GE126 := n6_; clear n0_ n1_ n2_ n3_ n4_ n5_ n6_; clear hb hbox hg; have hcz34_0 : w33.cell? ⟨gb126, 0, none⟩ = some (.string (⟨#[]⟩ : ByteArray)) := (blk_cell BK126.out 0).trans rfl; have hcz34_1 : w33.cell? ⟨gb126, 1, none⟩ = some (.int .i64 0) := (blk_cell BK126.out 1).trans rfl; have hcz34_2 : w33.cell? ⟨gb126, 2, none⟩ = some (.int .i64 0) := (blk_cell BK126.out 2).trans rfl; have hcz34_3 : w33.cell? ⟨gb126, 3, none⟩ = some (.string (⟨#[]⟩ : ByteArray)) := (blk_cell BK126.out 3).trans rfl; have hcz34_4 : w33.cell? ⟨gb126, 4, none⟩ = some (.slice none 0 0) := (blk_cell BK126.out 4).trans rfl; have hfz34_0 := blk_frozen BK126.out 0; have hfz34_1 := blk_frozen BK126.out 1; have hfz34_2 := blk_frozen BK126.out 2; have hfz34_3 := blk_frozen BK126.out 3; have hfz34_4 := blk_frozen BK126.out 4) | ((with_reducible refine gate_callee (f := 34) rfl ?_); refine goesL_ (some 52) rfl rfl Tryz.func34 (by kernel_rfl) rfl #[.agg #[.string ((rd_T56 t117 x46_2).f0), .int .i64 ((rd_T56 t117 x46_2).f1.f0), .int .i64 ((rd_T56 t117 x46_2).f1.f1), .string ((rd_T56 t117 x46_2).f1.f2), .slice A125_4 ((rd_T56 t117 x46_2).f2).length c125_4], .string (⟨#[114]⟩ : ByteArray)] rfl (by (try simp only [List.map_toArray, List.map_cons, List.map_nil]); first | done | rfl | (simp only [List.length_drop, List.length_take]; rfl)) ?_; (with_reducible refine (field_Param.calls k2 ((rd_T56 t117 x46_2).f0) ((rd_T56 t117 x46_2).f1.f0) ((rd_T56 t117 x46_2).f1.f1) ((rd_T56 t117 x46_2).f1.f2) _ _ ((rd_T56 t117 x46_2).f2) (⟨#[114]⟩ : ByteArray) t127 true _ ?side1 ?side2 A17.out).mono ?_); (case side1 => repeat (first | exact ((Kd.R_reads' (by (with_reducible repeat (first | apply Kd.R_alloc | apply Kd.R_drewN | apply Kd.R_drew)); exact (Kd.R_mono (Kd.R_far (p := ⟨gb126, 4, none⟩) (Kd.R_far (p := ⟨gb126, 3, none⟩) (Kd.R_far (p := ⟨gb126, 2, none⟩) (Kd.R_far (p := ⟨gb126, 1, none⟩) (Kd.R_far (p := ⟨gb126, 0, none⟩) (Kd.R_types HL125_4.out BK126.out (by decide)) (fun _ hk => hk.2) (.string ((rd_T56 t117 x46_2).f0))) (fun _ hk => hk.2) (.int .i64 ((rd_T56 t117 x46_2).f1.f0))) (fun _ hk => hk.2) (.int .i64 ((rd_T56 t117 x46_2).f1.f1))) (fun _ hk => hk.2) (.string ((rd_T56 t117 x46_2).f1.f2))) (fun _ hk => hk.2) (.slice A125_4 ((rd_T56 t117 x46_2).f2).length c125_4)) (fun _ h_ => h_.1)))).2.2) | (with_reducible refine Kd.C_alloc ?_ _) | (with_reducible refine Kd.C_drewN ?_ _) | (with_reducible refine Kd.C_drew ?_))); (case side2 => exact HC125_4.out); rintro e w35 ⟨rfl, hb⟩; refine ⟨_, rfl, ?_⟩; have n0_ := Aside0.mk (Kd.S_below (by (with_reducible repeat (first | apply Kd.S_alloc | apply Kd.S_drewN | apply Kd.S_drew)); exact (Kd.S_mono (Kd.S_far (p := ⟨gb126, 4, none⟩) (Kd.S_far (p := ⟨gb126, 3, none⟩) (Kd.S_far (p := ⟨gb126, 2, none⟩) (Kd.S_far (p := ⟨gb126, 1, none⟩) (Kd.S_far (p := ⟨gb126, 0, none⟩) (Kd.S_mono HO_44.out (fun k_ hk => (⟨hk, hk.2⟩ : _ ∧ k_ ≠ gb126))) (fun _ hk => hk.2) (.string ((rd_T56 t117 x46_2).f0))) (fun _ hk => hk.2) (.int .i64 ((rd_T56 t117 x46_2).f1.f0))) (fun _ hk => hk.2) (.int .i64 ((rd_T56 t117 x46_2).f1.f1))) (fun _ hk => hk.2) (.string ((rd_T56 t117 x46_2).f1.f2))) (fun _ hk => hk.2) (.slice A125_4 ((rd_T56 t117 x46_2).f2).length c125_4)) (fun _ h_ => h_.1))) hb); have n1_ := Aside0.mk (Kd.R_below (by (with_reducible repeat (first | apply Kd.R_alloc | apply Kd.R_drewN | apply Kd.R_drew)); exact (Kd.R_mono (Kd.R_far (p := ⟨gb126, 4, none⟩) (Kd.R_far (p := ⟨gb126, 3, none⟩) (Kd.R_far (p := ⟨gb126, 2, none⟩) (Kd.R_far (p := ⟨gb126, 1, none⟩) (Kd.R_far (p := ⟨gb126, 0, none⟩) (Kd.R_types HL125_4.out BK126.out (by decide)) (fun _ hk => hk.2) (.string ((rd_T56 t117 x46_2).f0))) (fun _ hk => hk.2) (.int .i64 ((rd_T56 t117 x46_2).f1.f0))) (fun _ hk => hk.2) (.int .i64 ((rd_T56 t117 x46_2).f1.f1))) (fun _ hk => hk.2) (.string ((rd_T56 t117 x46_2).f1.f2))) (fun _ hk => hk.2) (.slice A125_4 ((rd_T56 t117 x46_2).f2).length c125_4)) (fun _ h_ => h_.1))) hb); have n2_ := Aside0.mk (Kd.C_below ((Kd.R_reads' (by (with_reducible repeat (first | apply Kd.R_alloc | apply Kd.R_drewN | apply Kd.R_drew)); exact (Kd.R_mono (Kd.R_far (p := ⟨gb126, 4, none⟩) (Kd.R_far (p := ⟨gb126, 3, none⟩) (Kd.R_far (p := ⟨gb126, 2, none⟩) (Kd.R_far (p := ⟨gb126, 1, none⟩) (Kd.R_far (p := ⟨gb126, 0, none⟩) (Kd.R_types HL125_4.out BK126.out (by decide)) (fun _ hk => hk.2) (.string ((rd_T56 t117 x46_2).f0))) (fun _ hk => hk.2) (.int .i64 ((rd_T56 t117 x46_2).f1.f0))) (fun _ hk => hk.2) (.int .i64 ((rd_T56 t117 x46_2).f1.f1))) (fun _ hk => hk.2) (.string ((rd_T56 t117 x46_2).f1.f2))) (fun _ hk => hk.2) (.slice A125_4 ((rd_T56 t117 x46_2).f2).length c125_4)) (fun _ h_ => h_.1)))).2.2) hb); have n3_ := Aside0.mk (blk_below (g := gb126) (o := .cells #[.string ((rd_T56 t117 x46_2).f0), .int .i64 ((rd_T56 t117 x46_2).f1.f0), .int .i64 ((rd_T56 t117 x46_2).f1.f1), .string ((rd_T56 t117 x46_2).f1.f2), .slice A125_4 ((rd_T56 t117 x46_2).f2).length c125_4] 56 (0, 0)) (by (with_reducible repeat (first | refine blk_drewN ?_ _ | refine blk_drew ?_ | refine blk_alloc ?_ _)); refine blk_put (cs := #[.string ((rd_T56 t117 x46_2).f0), .int .i64 ((rd_T56 t117 x46_2).f1.f0), .int .i64 ((rd_T56 t117 x46_2).f1.f1), .string ((rd_T56 t117 x46_2).f1.f2), .slice none 0 0]) ?_ 4 _ rfl; (with_reducible repeat (first | refine blk_drewN ?_ _ | refine blk_drew ?_ | refine blk_alloc ?_ _)); refine blk_put (cs := #[.string ((rd_T56 t117 x46_2).f0), .int .i64 ((rd_T56 t117 x46_2).f1.f0), .int .i64 ((rd_T56 t117 x46_2).f1.f1), .string (⟨#[]⟩ : ByteArray), .slice none 0 0]) ?_ 3 _ rfl; (with_reducible repeat (first | refine blk_drewN ?_ _ | refine blk_drew ?_ | refine blk_alloc ?_ _)); refine blk_put (cs := #[.string ((rd_T56 t117 x46_2).f0), .int .i64 ((rd_T56 t117 x46_2).f1.f0), .int .i64 0, .string (⟨#[]⟩ : ByteArray), .slice none 0 0]) ?_ 2 _ rfl; (with_reducible repeat (first | refine blk_drewN ?_ _ | refine blk_drew ?_ | refine blk_alloc ?_ _)); refine blk_put (cs := #[.string ((rd_T56 t117 x46_2).f0), .int .i64 0, .int .i64 0, .string (⟨#[]⟩ : ByteArray), .slice none 0 0]) ?_ 1 _ rfl; (with_reducible repeat (first | refine blk_drewN ?_ _ | refine blk_drew ?_ | refine blk_alloc ?_ _)); refine blk_put (cs := #[.string (⟨#[]⟩ : ByteArray), .int .i64 0, .int .i64 0, .string (⟨#[]⟩ : ByteArray), .slice none 0 0]) ?_ 0 _ rfl; (with_reducible repeat (first | refine blk_drewN ?_ _ | refine blk_drew ?_ | refine blk_alloc ?_ _)); exact BK126.out) hb); have n4_ := Aside0.mk (below_step (by repeat (first | (with_reducible first | exact HB.out | apply below_alloc | apply pw_below_drewN | apply below_drew1 | refine below_set ?_ GE126.out) | exact HB.out)) hb); clear HO_44; clear HL125_4; clear HR125_4; clear BK126; clear HB; have HO_44 := n0_; have HL125_4 := n1_; have HR125_4 := n2_; have BK126 := n3_; have HB := n4_; clear n0_ n1_ n2_ n3_ n4_; (try clear hb); (try clear hb2); (try clear hk); (try clear hi); have hcz36_0 : w35.cell? ⟨gb126, 0, none⟩ = some (.string ((rd_T56 t117 x46_2).f0)) := (blk_cell BK126.out 0).trans rfl; have hcz36_1 : w35.cell? ⟨gb126, 1, none⟩ = some (.int .i64 ((rd_T56 t117 x46_2).f1.f0)) := (blk_cell BK126.out 1).trans rfl; have hcz36_2 : w35.cell? ⟨gb126, 2, none⟩ = some (.int .i64 ((rd_T56 t117 x46_2).f1.f1)) := (blk_cell BK126.out 2).trans rfl; have hcz36_3 : w35.cell? ⟨gb126, 3, none⟩ = some (.string ((rd_T56 t117 x46_2).f1.f2)) := (blk_cell BK126.out 3).trans rfl; have hcz36_4 : w35.cell? ⟨gb126, 4, none⟩ = some (.slice A125_4 ((rd_T56 t117 x46_2).f2).length c125_4) := (blk_cell BK126.out 4).trans rfl; have hfz36_0 := blk_frozen BK126.out 0; have hfz36_1 := blk_frozen BK126.out 1; have hfz36_2 := blk_frozen BK126.out 2; have hfz36_3 := blk_frozen BK126.out 3; have hfz36_4 := blk_frozen BK126.out 4) | ((with_reducible refine gate_callee (f := 34) rfl ?_); refine goesL_ (some 57) rfl rfl Tryz.func34 (by kernel_rfl) rfl #[.agg #[.string ((rd_T56 t117 x46_2).f0), .int .i64 ((rd_T56 t117 x46_2).f1.f0), .int .i64 ((rd_T56 t117 x46_2).f1.f1), .string ((rd_T56 t117 x46_2).f1.f2), .slice A125_4 ((rd_T56 t117 x46_2).f2).length c125_4], .string (⟨#[116]⟩ : ByteArray)] rfl (by (try simp only [List.map_toArray, List.map_cons, List.map_nil]); first | done | rfl | (simp only [List.length_drop, List.length_take]; rfl)) ?_; (with_reducible refine (field_Param.calls k2 ((rd_T56 t117 x46_2).f0) ((rd_T56 t117 x46_2).f1.f0) ((rd_T56 t117 x46_2).f1.f1) ((rd_T56 t117 x46_2).f1.f2) _ _ ((rd_T56 t117 x46_2).f2) (⟨#[116]⟩ : ByteArray) t129 true _ ?side1 ?side2 A18.out).mono ?_); (case side1 => repeat (first | exact (by repeat (first | (with_reducible exact HR125_4.out) | (with_reducible refine Kd.C_alloc ?_ _) | (with_reducible refine Kd.C_drewN ?_ _) | (with_reducible refine Kd.C_drew ?_) | exact HR125_4.out)) | (with_reducible refine Kd.C_alloc ?_ _) | (with_reducible refine Kd.C_drewN ?_ _) | (with_reducible refine Kd.C_drew ?_))); (case side2 => exact HC125_4.out); rintro e w37 ⟨rfl, hb⟩; refine ⟨_, rfl, ?_⟩; have n0_ := Aside0.mk (Kd.S_below (by (with_reducible repeat (first | apply Kd.S_alloc | apply Kd.S_drewN | apply Kd.S_drew)); exact HO_44.out) hb); have n1_ := Aside0.mk (Kd.R_below (by (with_reducible repeat (first | apply Kd.R_alloc | apply Kd.R_drewN | apply Kd.R_drew)); exact HL125_4.out) hb); have n2_ := Aside0.mk (Kd.C_below (by repeat (first | (with_reducible exact HR125_4.out) | (with_reducible refine Kd.C_alloc ?_ _) | (with_reducible refine Kd.C_drewN ?_ _) | (with_reducible refine Kd.C_drew ?_) | exact HR125_4.out)) hb); have n3_ := Aside0.mk (blk_below (g := gb126) (o := .cells #[.string ((rd_T56 t117 x46_2).f0), .int .i64 ((rd_T56 t117 x46_2).f1.f0), .int .i64 ((rd_T56 t117 x46_2).f1.f1), .string ((rd_T56 t117 x46_2).f1.f2), .slice A125_4 ((rd_T56 t117 x46_2).f2).length c125_4] 56 (0, 0)) (by (with_reducible repeat (first | refine blk_drewN ?_ _ | refine blk_drew ?_ | refine blk_alloc ?_ _)); exact BK126.out) hb); have n4_ := Aside0.mk (below_step (by repeat (first | (with_reducible first | exact HB.out | apply below_alloc | apply pw_below_drewN | apply below_drew1 | refine below_set ?_ GE126.out) | exact HB.out)) hb); clear HO_44; clear HL125_4; clear HR125_4; clear BK126; clear HB; have HO_44 := n0_; have HL125_4 := n1_; have HR125_4 := n2_; have BK126 := n3_; have HB := n4_; clear n0_ n1_ n2_ n3_ n4_; (try clear hb); (try clear hb2); (try clear hk); (try clear hi)))
                          go_roundg k2
                          case measure => have := HJ5.out; have := HK2.out; omega
                          case rel => exact ⟨(x10_2), (x11_2), (wrap64 (x46_2 + 1)), (by first | rfl | (simp; done) | (simp [*]; done)), (by first | rfl | (simp; done) | (simp [*]; done)), (by first | rfl | (simp; done) | (simp [*]; done)), H', ⟨by have := HJ5.out; have := HK2.out; omega⟩, ⟨by (with_reducible repeat (first | apply Kd.S_alloc | apply Kd.S_drewN | apply Kd.S_drew)); exact Kd.S_mono HO_44.out (fun _ hk => trivial)⟩, ⟨by repeat (first | (with_reducible first | exact HB.out | apply below_alloc | apply pw_below_drewN | apply below_drew1 | refine below_set ?_ GE126.out) | exact HB.out)⟩⟩
                      · replace c20 := Bool.eq_false_iff.mpr c20
                        subst c20
                        have H1 : (feed_limit.l0 k2 x10_2 x11_2 t117 (t117.length : Int) (wrap64 (x46_2 + 1))) = some (r1, r2) := by rw [if_neg (show ¬ (false = true) by decide)] at H; exact H
                        clear H
                        have H := H1
                        clear H1
                        have H' := Aside0.mk H
                        clear H
                        have p125 : 0 ≤ (x46_2 : Int) := of_decide_eq_true (by first | (with_reducible assumption) | assumption)
                        have q125 : x46_2 < (t117.length : Int) := of_decide_eq_true (by first | (with_reducible assumption) | assumption)
                        obtain ⟨ad125, A125_4, c125_4, e125, hx125_0, hx125_1, hx125_2, hx125_3, hx125_4, hl125_4, hi125_4⟩ := at_T56 (Kd.S_reads' HO_44.out).2.2 x46_2 p125 q125
                        cases e125
                        obtain ⟨ce125, hce125, hMe125, hcc125⟩ := Kd.S_get HO_44.out z56 x46_2 p125 (by first | exact q125 | exact of_decide_eq_true (by first | (with_reducible assumption) | assumption) | (have e_ := (Kd.S_reads' HO_44.out).1; omega))
                        obtain ⟨ve125_4, rfl, ge125_4⟩ := k56_openM hMe125
                        have hv125_4 := hcc125 4 _ rfl
                        rw [add_field _ _ 4 (by omega)] at hv125_4
                        replace hv125_4 := Option.some.inj (hv125_4.symm.trans hx125_4)
                        rw [hv125_4] at ge125_4
                        have HL125_4 := Aside0.mk (show Kd.R k87 87 _ _ _ _ ((rd_T56 t117 x46_2).f2) from ge125_4)
                        clear hv125_4 ge125_4
                        clear hcc125 hce125
                        have HR125_4 := Aside0.mk hi125_4
                        have HC125_4 := Aside0.mk hl125_4
                        clear hi125_4 hl125_4
                        replace p125 := eq_true p125
                        replace q125 := eq_true q125
                        go_wp2_with (first | ((with_reducible refine gate_dst (N := 13) rfl ?_); refine box_event ?hg (N := 13) ?hd (cs := #[.string (⟨#[]⟩ : ByteArray), .int .i64 0, .int .i64 0, .string (⟨#[]⟩ : ByteArray), .slice none 0 0]) (t := 56) ?hr ?_; (case hd => rfl); (case hg => rfl); (case hr => first | (go_simp; done) | (go_simp; rfl)); intro gb126 hg w38 hbox hb; have n0_ := Aside0.mk (Kd.S_below (Kd.S_elderB (by (with_reducible repeat (first | apply Kd.S_alloc | apply Kd.S_drewN | apply Kd.S_drew)); exact HO_44.out) gb126 (Nat.le_of_eq hg.symm)) hb); have n1_ := Aside0.mk (Kd.R_below (by (with_reducible repeat (first | apply Kd.R_alloc | apply Kd.R_drewN | apply Kd.R_drew)); exact HL125_4.out) hb); have n2_ := Aside0.mk (Kd.C_below (by repeat (first | (with_reducible exact HR125_4.out) | (with_reducible refine Kd.C_alloc ?_ _) | (with_reducible refine Kd.C_drewN ?_ _) | (with_reducible refine Kd.C_drew ?_) | exact HR125_4.out)) hb); have n3_ := Aside0.mk (below_step (by repeat (first | (with_reducible first | exact HB.out | apply below_alloc | apply pw_below_drewN | apply below_drew1) | exact HB.out)) hb); have n4_ := Aside0.mk (hbox); have n5_ := Aside0.mk ((by rw [hg]; exact (below_size (by repeat (first | (with_reducible first | exact HB.out | apply below_alloc | apply pw_below_drewN | apply below_drew1) | exact HB.out))) : w.heap.size ≤ gb126)); have n6_ := Aside0.mk ((by rw [hg]; exact (below_size (by repeat (first | (with_reducible first | exact HB.out | apply below_alloc | apply pw_below_drewN | apply below_drew1) | exact HB.out))) : w.heap.size ≤ gb126)); clear HO_44; clear HL125_4; clear HR125_4; clear HB; have HO_44 := n0_; have HL125_4 := n1_; have HR125_4 := n2_; have HB := n3_; have BK126 := n4_; have GW126 := n5_; have GE126 := n6_; clear n0_ n1_ n2_ n3_ n4_ n5_ n6_; clear hb hbox hg; have hcz39_0 : w38.cell? ⟨gb126, 0, none⟩ = some (.string (⟨#[]⟩ : ByteArray)) := (blk_cell BK126.out 0).trans rfl; have hcz39_1 : w38.cell? ⟨gb126, 1, none⟩ = some (.int .i64 0) := (blk_cell BK126.out 1).trans rfl; have hcz39_2 : w38.cell? ⟨gb126, 2, none⟩ = some (.int .i64 0) := (blk_cell BK126.out 2).trans rfl; have hcz39_3 : w38.cell? ⟨gb126, 3, none⟩ = some (.string (⟨#[]⟩ : ByteArray)) := (blk_cell BK126.out 3).trans rfl; have hcz39_4 : w38.cell? ⟨gb126, 4, none⟩ = some (.slice none 0 0) := (blk_cell BK126.out 4).trans rfl; have hfz39_0 := blk_frozen BK126.out 0; have hfz39_1 := blk_frozen BK126.out 1; have hfz39_2 := blk_frozen BK126.out 2; have hfz39_3 := blk_frozen BK126.out 3; have hfz39_4 := blk_frozen BK126.out 4) | ((with_reducible refine gate_callee (f := 34) rfl ?_); refine goesL_ (some 52) rfl rfl Tryz.func34 (by kernel_rfl) rfl #[.agg #[.string ((rd_T56 t117 x46_2).f0), .int .i64 ((rd_T56 t117 x46_2).f1.f0), .int .i64 ((rd_T56 t117 x46_2).f1.f1), .string ((rd_T56 t117 x46_2).f1.f2), .slice A125_4 ((rd_T56 t117 x46_2).f2).length c125_4], .string (⟨#[114]⟩ : ByteArray)] rfl (by (try simp only [List.map_toArray, List.map_cons, List.map_nil]); first | done | rfl | (simp only [List.length_drop, List.length_take]; rfl)) ?_; (with_reducible refine (field_Param.calls k2 ((rd_T56 t117 x46_2).f0) ((rd_T56 t117 x46_2).f1.f0) ((rd_T56 t117 x46_2).f1.f1) ((rd_T56 t117 x46_2).f1.f2) _ _ ((rd_T56 t117 x46_2).f2) (⟨#[114]⟩ : ByteArray) t127 true _ ?side1 ?side2 A17.out).mono ?_); (case side1 => repeat (first | exact ((Kd.R_reads' (by (with_reducible repeat (first | apply Kd.R_alloc | apply Kd.R_drewN | apply Kd.R_drew)); exact (Kd.R_mono (Kd.R_far (p := ⟨gb126, 4, none⟩) (Kd.R_far (p := ⟨gb126, 3, none⟩) (Kd.R_far (p := ⟨gb126, 2, none⟩) (Kd.R_far (p := ⟨gb126, 1, none⟩) (Kd.R_far (p := ⟨gb126, 0, none⟩) (Kd.R_types HL125_4.out BK126.out (by decide)) (fun _ hk => hk.2) (.string ((rd_T56 t117 x46_2).f0))) (fun _ hk => hk.2) (.int .i64 ((rd_T56 t117 x46_2).f1.f0))) (fun _ hk => hk.2) (.int .i64 ((rd_T56 t117 x46_2).f1.f1))) (fun _ hk => hk.2) (.string ((rd_T56 t117 x46_2).f1.f2))) (fun _ hk => hk.2) (.slice A125_4 ((rd_T56 t117 x46_2).f2).length c125_4)) (fun _ h_ => h_.1)))).2.2) | (with_reducible refine Kd.C_alloc ?_ _) | (with_reducible refine Kd.C_drewN ?_ _) | (with_reducible refine Kd.C_drew ?_))); (case side2 => exact HC125_4.out); rintro e w40 ⟨rfl, hb⟩; refine ⟨_, rfl, ?_⟩; have n0_ := Aside0.mk (Kd.S_below (by (with_reducible repeat (first | apply Kd.S_alloc | apply Kd.S_drewN | apply Kd.S_drew)); exact (Kd.S_mono (Kd.S_far (p := ⟨gb126, 4, none⟩) (Kd.S_far (p := ⟨gb126, 3, none⟩) (Kd.S_far (p := ⟨gb126, 2, none⟩) (Kd.S_far (p := ⟨gb126, 1, none⟩) (Kd.S_far (p := ⟨gb126, 0, none⟩) (Kd.S_mono HO_44.out (fun k_ hk => (⟨hk, hk.2⟩ : _ ∧ k_ ≠ gb126))) (fun _ hk => hk.2) (.string ((rd_T56 t117 x46_2).f0))) (fun _ hk => hk.2) (.int .i64 ((rd_T56 t117 x46_2).f1.f0))) (fun _ hk => hk.2) (.int .i64 ((rd_T56 t117 x46_2).f1.f1))) (fun _ hk => hk.2) (.string ((rd_T56 t117 x46_2).f1.f2))) (fun _ hk => hk.2) (.slice A125_4 ((rd_T56 t117 x46_2).f2).length c125_4)) (fun _ h_ => h_.1))) hb); have n1_ := Aside0.mk (Kd.R_below (by (with_reducible repeat (first | apply Kd.R_alloc | apply Kd.R_drewN | apply Kd.R_drew)); exact (Kd.R_mono (Kd.R_far (p := ⟨gb126, 4, none⟩) (Kd.R_far (p := ⟨gb126, 3, none⟩) (Kd.R_far (p := ⟨gb126, 2, none⟩) (Kd.R_far (p := ⟨gb126, 1, none⟩) (Kd.R_far (p := ⟨gb126, 0, none⟩) (Kd.R_types HL125_4.out BK126.out (by decide)) (fun _ hk => hk.2) (.string ((rd_T56 t117 x46_2).f0))) (fun _ hk => hk.2) (.int .i64 ((rd_T56 t117 x46_2).f1.f0))) (fun _ hk => hk.2) (.int .i64 ((rd_T56 t117 x46_2).f1.f1))) (fun _ hk => hk.2) (.string ((rd_T56 t117 x46_2).f1.f2))) (fun _ hk => hk.2) (.slice A125_4 ((rd_T56 t117 x46_2).f2).length c125_4)) (fun _ h_ => h_.1))) hb); have n2_ := Aside0.mk (Kd.C_below ((Kd.R_reads' (by (with_reducible repeat (first | apply Kd.R_alloc | apply Kd.R_drewN | apply Kd.R_drew)); exact (Kd.R_mono (Kd.R_far (p := ⟨gb126, 4, none⟩) (Kd.R_far (p := ⟨gb126, 3, none⟩) (Kd.R_far (p := ⟨gb126, 2, none⟩) (Kd.R_far (p := ⟨gb126, 1, none⟩) (Kd.R_far (p := ⟨gb126, 0, none⟩) (Kd.R_types HL125_4.out BK126.out (by decide)) (fun _ hk => hk.2) (.string ((rd_T56 t117 x46_2).f0))) (fun _ hk => hk.2) (.int .i64 ((rd_T56 t117 x46_2).f1.f0))) (fun _ hk => hk.2) (.int .i64 ((rd_T56 t117 x46_2).f1.f1))) (fun _ hk => hk.2) (.string ((rd_T56 t117 x46_2).f1.f2))) (fun _ hk => hk.2) (.slice A125_4 ((rd_T56 t117 x46_2).f2).length c125_4)) (fun _ h_ => h_.1)))).2.2) hb); have n3_ := Aside0.mk (blk_below (g := gb126) (o := .cells #[.string ((rd_T56 t117 x46_2).f0), .int .i64 ((rd_T56 t117 x46_2).f1.f0), .int .i64 ((rd_T56 t117 x46_2).f1.f1), .string ((rd_T56 t117 x46_2).f1.f2), .slice A125_4 ((rd_T56 t117 x46_2).f2).length c125_4] 56 (0, 0)) (by (with_reducible repeat (first | refine blk_drewN ?_ _ | refine blk_drew ?_ | refine blk_alloc ?_ _)); refine blk_put (cs := #[.string ((rd_T56 t117 x46_2).f0), .int .i64 ((rd_T56 t117 x46_2).f1.f0), .int .i64 ((rd_T56 t117 x46_2).f1.f1), .string ((rd_T56 t117 x46_2).f1.f2), .slice none 0 0]) ?_ 4 _ rfl; (with_reducible repeat (first | refine blk_drewN ?_ _ | refine blk_drew ?_ | refine blk_alloc ?_ _)); refine blk_put (cs := #[.string ((rd_T56 t117 x46_2).f0), .int .i64 ((rd_T56 t117 x46_2).f1.f0), .int .i64 ((rd_T56 t117 x46_2).f1.f1), .string (⟨#[]⟩ : ByteArray), .slice none 0 0]) ?_ 3 _ rfl; (with_reducible repeat (first | refine blk_drewN ?_ _ | refine blk_drew ?_ | refine blk_alloc ?_ _)); refine blk_put (cs := #[.string ((rd_T56 t117 x46_2).f0), .int .i64 ((rd_T56 t117 x46_2).f1.f0), .int .i64 0, .string (⟨#[]⟩ : ByteArray), .slice none 0 0]) ?_ 2 _ rfl; (with_reducible repeat (first | refine blk_drewN ?_ _ | refine blk_drew ?_ | refine blk_alloc ?_ _)); refine blk_put (cs := #[.string ((rd_T56 t117 x46_2).f0), .int .i64 0, .int .i64 0, .string (⟨#[]⟩ : ByteArray), .slice none 0 0]) ?_ 1 _ rfl; (with_reducible repeat (first | refine blk_drewN ?_ _ | refine blk_drew ?_ | refine blk_alloc ?_ _)); refine blk_put (cs := #[.string (⟨#[]⟩ : ByteArray), .int .i64 0, .int .i64 0, .string (⟨#[]⟩ : ByteArray), .slice none 0 0]) ?_ 0 _ rfl; (with_reducible repeat (first | refine blk_drewN ?_ _ | refine blk_drew ?_ | refine blk_alloc ?_ _)); exact BK126.out) hb); have n4_ := Aside0.mk (below_step (by repeat (first | (with_reducible first | exact HB.out | apply below_alloc | apply pw_below_drewN | apply below_drew1 | refine below_set ?_ GE126.out) | exact HB.out)) hb); clear HO_44; clear HL125_4; clear HR125_4; clear BK126; clear HB; have HO_44 := n0_; have HL125_4 := n1_; have HR125_4 := n2_; have BK126 := n3_; have HB := n4_; clear n0_ n1_ n2_ n3_ n4_; (try clear hb); (try clear hb2); (try clear hk); (try clear hi); have hcz41_0 : w40.cell? ⟨gb126, 0, none⟩ = some (.string ((rd_T56 t117 x46_2).f0)) := (blk_cell BK126.out 0).trans rfl; have hcz41_1 : w40.cell? ⟨gb126, 1, none⟩ = some (.int .i64 ((rd_T56 t117 x46_2).f1.f0)) := (blk_cell BK126.out 1).trans rfl; have hcz41_2 : w40.cell? ⟨gb126, 2, none⟩ = some (.int .i64 ((rd_T56 t117 x46_2).f1.f1)) := (blk_cell BK126.out 2).trans rfl; have hcz41_3 : w40.cell? ⟨gb126, 3, none⟩ = some (.string ((rd_T56 t117 x46_2).f1.f2)) := (blk_cell BK126.out 3).trans rfl; have hcz41_4 : w40.cell? ⟨gb126, 4, none⟩ = some (.slice A125_4 ((rd_T56 t117 x46_2).f2).length c125_4) := (blk_cell BK126.out 4).trans rfl; have hfz41_0 := blk_frozen BK126.out 0; have hfz41_1 := blk_frozen BK126.out 1; have hfz41_2 := blk_frozen BK126.out 2; have hfz41_3 := blk_frozen BK126.out 3; have hfz41_4 := blk_frozen BK126.out 4) | ((with_reducible refine gate_callee (f := 34) rfl ?_); refine goesL_ (some 57) rfl rfl Tryz.func34 (by kernel_rfl) rfl #[.agg #[.string ((rd_T56 t117 x46_2).f0), .int .i64 ((rd_T56 t117 x46_2).f1.f0), .int .i64 ((rd_T56 t117 x46_2).f1.f1), .string ((rd_T56 t117 x46_2).f1.f2), .slice A125_4 ((rd_T56 t117 x46_2).f2).length c125_4], .string (⟨#[116]⟩ : ByteArray)] rfl (by (try simp only [List.map_toArray, List.map_cons, List.map_nil]); first | done | rfl | (simp only [List.length_drop, List.length_take]; rfl)) ?_; (with_reducible refine (field_Param.calls k2 ((rd_T56 t117 x46_2).f0) ((rd_T56 t117 x46_2).f1.f0) ((rd_T56 t117 x46_2).f1.f1) ((rd_T56 t117 x46_2).f1.f2) _ _ ((rd_T56 t117 x46_2).f2) (⟨#[116]⟩ : ByteArray) t129 false _ ?side1 ?side2 A18.out).mono ?_); (case side1 => repeat (first | exact (by repeat (first | (with_reducible exact HR125_4.out) | (with_reducible refine Kd.C_alloc ?_ _) | (with_reducible refine Kd.C_drewN ?_ _) | (with_reducible refine Kd.C_drew ?_) | exact HR125_4.out)) | (with_reducible refine Kd.C_alloc ?_ _) | (with_reducible refine Kd.C_drewN ?_ _) | (with_reducible refine Kd.C_drew ?_))); (case side2 => exact HC125_4.out); rintro e w42 ⟨rfl, hb⟩; refine ⟨_, rfl, ?_⟩; have n0_ := Aside0.mk (Kd.S_below (by (with_reducible repeat (first | apply Kd.S_alloc | apply Kd.S_drewN | apply Kd.S_drew)); exact HO_44.out) hb); have n1_ := Aside0.mk (Kd.R_below (by (with_reducible repeat (first | apply Kd.R_alloc | apply Kd.R_drewN | apply Kd.R_drew)); exact HL125_4.out) hb); have n2_ := Aside0.mk (Kd.C_below (by repeat (first | (with_reducible exact HR125_4.out) | (with_reducible refine Kd.C_alloc ?_ _) | (with_reducible refine Kd.C_drewN ?_ _) | (with_reducible refine Kd.C_drew ?_) | exact HR125_4.out)) hb); have n3_ := Aside0.mk (blk_below (g := gb126) (o := .cells #[.string ((rd_T56 t117 x46_2).f0), .int .i64 ((rd_T56 t117 x46_2).f1.f0), .int .i64 ((rd_T56 t117 x46_2).f1.f1), .string ((rd_T56 t117 x46_2).f1.f2), .slice A125_4 ((rd_T56 t117 x46_2).f2).length c125_4] 56 (0, 0)) (by (with_reducible repeat (first | refine blk_drewN ?_ _ | refine blk_drew ?_ | refine blk_alloc ?_ _)); exact BK126.out) hb); have n4_ := Aside0.mk (below_step (by repeat (first | (with_reducible first | exact HB.out | apply below_alloc | apply pw_below_drewN | apply below_drew1 | refine below_set ?_ GE126.out) | exact HB.out)) hb); clear HO_44; clear HL125_4; clear HR125_4; clear BK126; clear HB; have HO_44 := n0_; have HL125_4 := n1_; have HR125_4 := n2_; have BK126 := n3_; have HB := n4_; clear n0_ n1_ n2_ n3_ n4_; (try clear hb); (try clear hb2); (try clear hk); (try clear hi)))
                        go_roundg k2
                        case measure => have := HJ5.out; have := HK2.out; omega
                        case rel => exact ⟨(x10_2), (x11_2), (wrap64 (x46_2 + 1)), (by first | rfl | (simp; done) | (simp [*]; done)), (by first | rfl | (simp; done) | (simp [*]; done)), (by first | rfl | (simp; done) | (simp [*]; done)), H', ⟨by have := HJ5.out; have := HK2.out; omega⟩, ⟨by (with_reducible repeat (first | apply Kd.S_alloc | apply Kd.S_drewN | apply Kd.S_drew)); exact Kd.S_mono HO_44.out (fun _ hk => trivial)⟩, ⟨by repeat (first | (with_reducible first | exact HB.out | apply below_alloc | apply pw_below_drewN | apply below_drew1 | refine below_set ?_ GE126.out) | exact HB.out)⟩⟩
                    · replace c19 := Bool.eq_false_iff.mpr c19
                      subst c19
                      have H1 : (feed_limit.l0 k2 x10_2 x11_2 t117 (t117.length : Int) (wrap64 (x46_2 + 1))) = some (r1, r2) := by rw [if_neg (show ¬ (false = true) by decide)] at H; exact H
                      clear H
                      have H := H1
                      clear H1
                      have H' := Aside0.mk H
                      clear H
                      have p125 : 0 ≤ (x46_2 : Int) := of_decide_eq_true (by first | (with_reducible assumption) | assumption)
                      have q125 : x46_2 < (t117.length : Int) := of_decide_eq_true (by first | (with_reducible assumption) | assumption)
                      obtain ⟨ad125, A125_4, c125_4, e125, hx125_0, hx125_1, hx125_2, hx125_3, hx125_4, hl125_4, hi125_4⟩ := at_T56 (Kd.S_reads' HO_44.out).2.2 x46_2 p125 q125
                      cases e125
                      obtain ⟨ce125, hce125, hMe125, hcc125⟩ := Kd.S_get HO_44.out z56 x46_2 p125 (by first | exact q125 | exact of_decide_eq_true (by first | (with_reducible assumption) | assumption) | (have e_ := (Kd.S_reads' HO_44.out).1; omega))
                      obtain ⟨ve125_4, rfl, ge125_4⟩ := k56_openM hMe125
                      have hv125_4 := hcc125 4 _ rfl
                      rw [add_field _ _ 4 (by omega)] at hv125_4
                      replace hv125_4 := Option.some.inj (hv125_4.symm.trans hx125_4)
                      rw [hv125_4] at ge125_4
                      have HL125_4 := Aside0.mk (show Kd.R k87 87 _ _ _ _ ((rd_T56 t117 x46_2).f2) from ge125_4)
                      clear hv125_4 ge125_4
                      clear hcc125 hce125
                      have HR125_4 := Aside0.mk hi125_4
                      have HC125_4 := Aside0.mk hl125_4
                      clear hi125_4 hl125_4
                      replace p125 := eq_true p125
                      replace q125 := eq_true q125
                      go_wp2_with (first | ((with_reducible refine gate_dst (N := 13) rfl ?_); refine box_event ?hg (N := 13) ?hd (cs := #[.string (⟨#[]⟩ : ByteArray), .int .i64 0, .int .i64 0, .string (⟨#[]⟩ : ByteArray), .slice none 0 0]) (t := 56) ?hr ?_; (case hd => rfl); (case hg => rfl); (case hr => first | (go_simp; done) | (go_simp; rfl)); intro gb126 hg w43 hbox hb; have n0_ := Aside0.mk (Kd.S_below (Kd.S_elderB (by (with_reducible repeat (first | apply Kd.S_alloc | apply Kd.S_drewN | apply Kd.S_drew)); exact HO_44.out) gb126 (Nat.le_of_eq hg.symm)) hb); have n1_ := Aside0.mk (Kd.R_below (by (with_reducible repeat (first | apply Kd.R_alloc | apply Kd.R_drewN | apply Kd.R_drew)); exact HL125_4.out) hb); have n2_ := Aside0.mk (Kd.C_below (by repeat (first | (with_reducible exact HR125_4.out) | (with_reducible refine Kd.C_alloc ?_ _) | (with_reducible refine Kd.C_drewN ?_ _) | (with_reducible refine Kd.C_drew ?_) | exact HR125_4.out)) hb); have n3_ := Aside0.mk (below_step (by repeat (first | (with_reducible first | exact HB.out | apply below_alloc | apply pw_below_drewN | apply below_drew1) | exact HB.out)) hb); have n4_ := Aside0.mk (hbox); have n5_ := Aside0.mk ((by rw [hg]; exact (below_size (by repeat (first | (with_reducible first | exact HB.out | apply below_alloc | apply pw_below_drewN | apply below_drew1) | exact HB.out))) : w.heap.size ≤ gb126)); have n6_ := Aside0.mk ((by rw [hg]; exact (below_size (by repeat (first | (with_reducible first | exact HB.out | apply below_alloc | apply pw_below_drewN | apply below_drew1) | exact HB.out))) : w.heap.size ≤ gb126)); clear HO_44; clear HL125_4; clear HR125_4; clear HB; have HO_44 := n0_; have HL125_4 := n1_; have HR125_4 := n2_; have HB := n3_; have BK126 := n4_; have GW126 := n5_; have GE126 := n6_; clear n0_ n1_ n2_ n3_ n4_ n5_ n6_; clear hb hbox hg; have hcz44_0 : w43.cell? ⟨gb126, 0, none⟩ = some (.string (⟨#[]⟩ : ByteArray)) := (blk_cell BK126.out 0).trans rfl; have hcz44_1 : w43.cell? ⟨gb126, 1, none⟩ = some (.int .i64 0) := (blk_cell BK126.out 1).trans rfl; have hcz44_2 : w43.cell? ⟨gb126, 2, none⟩ = some (.int .i64 0) := (blk_cell BK126.out 2).trans rfl; have hcz44_3 : w43.cell? ⟨gb126, 3, none⟩ = some (.string (⟨#[]⟩ : ByteArray)) := (blk_cell BK126.out 3).trans rfl; have hcz44_4 : w43.cell? ⟨gb126, 4, none⟩ = some (.slice none 0 0) := (blk_cell BK126.out 4).trans rfl; have hfz44_0 := blk_frozen BK126.out 0; have hfz44_1 := blk_frozen BK126.out 1; have hfz44_2 := blk_frozen BK126.out 2; have hfz44_3 := blk_frozen BK126.out 3; have hfz44_4 := blk_frozen BK126.out 4) | ((with_reducible refine gate_callee (f := 34) rfl ?_); refine goesL_ (some 52) rfl rfl Tryz.func34 (by kernel_rfl) rfl #[.agg #[.string ((rd_T56 t117 x46_2).f0), .int .i64 ((rd_T56 t117 x46_2).f1.f0), .int .i64 ((rd_T56 t117 x46_2).f1.f1), .string ((rd_T56 t117 x46_2).f1.f2), .slice A125_4 ((rd_T56 t117 x46_2).f2).length c125_4], .string (⟨#[114]⟩ : ByteArray)] rfl (by (try simp only [List.map_toArray, List.map_cons, List.map_nil]); first | done | rfl | (simp only [List.length_drop, List.length_take]; rfl)) ?_; (with_reducible refine (field_Param.calls k2 ((rd_T56 t117 x46_2).f0) ((rd_T56 t117 x46_2).f1.f0) ((rd_T56 t117 x46_2).f1.f1) ((rd_T56 t117 x46_2).f1.f2) _ _ ((rd_T56 t117 x46_2).f2) (⟨#[114]⟩ : ByteArray) t127 false _ ?side1 ?side2 A17.out).mono ?_); (case side1 => repeat (first | exact ((Kd.R_reads' (by (with_reducible repeat (first | apply Kd.R_alloc | apply Kd.R_drewN | apply Kd.R_drew)); exact (Kd.R_mono (Kd.R_far (p := ⟨gb126, 4, none⟩) (Kd.R_far (p := ⟨gb126, 3, none⟩) (Kd.R_far (p := ⟨gb126, 2, none⟩) (Kd.R_far (p := ⟨gb126, 1, none⟩) (Kd.R_far (p := ⟨gb126, 0, none⟩) (Kd.R_types HL125_4.out BK126.out (by decide)) (fun _ hk => hk.2) (.string ((rd_T56 t117 x46_2).f0))) (fun _ hk => hk.2) (.int .i64 ((rd_T56 t117 x46_2).f1.f0))) (fun _ hk => hk.2) (.int .i64 ((rd_T56 t117 x46_2).f1.f1))) (fun _ hk => hk.2) (.string ((rd_T56 t117 x46_2).f1.f2))) (fun _ hk => hk.2) (.slice A125_4 ((rd_T56 t117 x46_2).f2).length c125_4)) (fun _ h_ => h_.1)))).2.2) | (with_reducible refine Kd.C_alloc ?_ _) | (with_reducible refine Kd.C_drewN ?_ _) | (with_reducible refine Kd.C_drew ?_))); (case side2 => exact HC125_4.out); rintro e w45 ⟨rfl, hb⟩; refine ⟨_, rfl, ?_⟩; have n0_ := Aside0.mk (Kd.S_below (by (with_reducible repeat (first | apply Kd.S_alloc | apply Kd.S_drewN | apply Kd.S_drew)); exact (Kd.S_mono (Kd.S_far (p := ⟨gb126, 4, none⟩) (Kd.S_far (p := ⟨gb126, 3, none⟩) (Kd.S_far (p := ⟨gb126, 2, none⟩) (Kd.S_far (p := ⟨gb126, 1, none⟩) (Kd.S_far (p := ⟨gb126, 0, none⟩) (Kd.S_mono HO_44.out (fun k_ hk => (⟨hk, hk.2⟩ : _ ∧ k_ ≠ gb126))) (fun _ hk => hk.2) (.string ((rd_T56 t117 x46_2).f0))) (fun _ hk => hk.2) (.int .i64 ((rd_T56 t117 x46_2).f1.f0))) (fun _ hk => hk.2) (.int .i64 ((rd_T56 t117 x46_2).f1.f1))) (fun _ hk => hk.2) (.string ((rd_T56 t117 x46_2).f1.f2))) (fun _ hk => hk.2) (.slice A125_4 ((rd_T56 t117 x46_2).f2).length c125_4)) (fun _ h_ => h_.1))) hb); have n1_ := Aside0.mk (Kd.R_below (by (with_reducible repeat (first | apply Kd.R_alloc | apply Kd.R_drewN | apply Kd.R_drew)); exact (Kd.R_mono (Kd.R_far (p := ⟨gb126, 4, none⟩) (Kd.R_far (p := ⟨gb126, 3, none⟩) (Kd.R_far (p := ⟨gb126, 2, none⟩) (Kd.R_far (p := ⟨gb126, 1, none⟩) (Kd.R_far (p := ⟨gb126, 0, none⟩) (Kd.R_types HL125_4.out BK126.out (by decide)) (fun _ hk => hk.2) (.string ((rd_T56 t117 x46_2).f0))) (fun _ hk => hk.2) (.int .i64 ((rd_T56 t117 x46_2).f1.f0))) (fun _ hk => hk.2) (.int .i64 ((rd_T56 t117 x46_2).f1.f1))) (fun _ hk => hk.2) (.string ((rd_T56 t117 x46_2).f1.f2))) (fun _ hk => hk.2) (.slice A125_4 ((rd_T56 t117 x46_2).f2).length c125_4)) (fun _ h_ => h_.1))) hb); have n2_ := Aside0.mk (Kd.C_below ((Kd.R_reads' (by (with_reducible repeat (first | apply Kd.R_alloc | apply Kd.R_drewN | apply Kd.R_drew)); exact (Kd.R_mono (Kd.R_far (p := ⟨gb126, 4, none⟩) (Kd.R_far (p := ⟨gb126, 3, none⟩) (Kd.R_far (p := ⟨gb126, 2, none⟩) (Kd.R_far (p := ⟨gb126, 1, none⟩) (Kd.R_far (p := ⟨gb126, 0, none⟩) (Kd.R_types HL125_4.out BK126.out (by decide)) (fun _ hk => hk.2) (.string ((rd_T56 t117 x46_2).f0))) (fun _ hk => hk.2) (.int .i64 ((rd_T56 t117 x46_2).f1.f0))) (fun _ hk => hk.2) (.int .i64 ((rd_T56 t117 x46_2).f1.f1))) (fun _ hk => hk.2) (.string ((rd_T56 t117 x46_2).f1.f2))) (fun _ hk => hk.2) (.slice A125_4 ((rd_T56 t117 x46_2).f2).length c125_4)) (fun _ h_ => h_.1)))).2.2) hb); have n3_ := Aside0.mk (blk_below (g := gb126) (o := .cells #[.string ((rd_T56 t117 x46_2).f0), .int .i64 ((rd_T56 t117 x46_2).f1.f0), .int .i64 ((rd_T56 t117 x46_2).f1.f1), .string ((rd_T56 t117 x46_2).f1.f2), .slice A125_4 ((rd_T56 t117 x46_2).f2).length c125_4] 56 (0, 0)) (by (with_reducible repeat (first | refine blk_drewN ?_ _ | refine blk_drew ?_ | refine blk_alloc ?_ _)); refine blk_put (cs := #[.string ((rd_T56 t117 x46_2).f0), .int .i64 ((rd_T56 t117 x46_2).f1.f0), .int .i64 ((rd_T56 t117 x46_2).f1.f1), .string ((rd_T56 t117 x46_2).f1.f2), .slice none 0 0]) ?_ 4 _ rfl; (with_reducible repeat (first | refine blk_drewN ?_ _ | refine blk_drew ?_ | refine blk_alloc ?_ _)); refine blk_put (cs := #[.string ((rd_T56 t117 x46_2).f0), .int .i64 ((rd_T56 t117 x46_2).f1.f0), .int .i64 ((rd_T56 t117 x46_2).f1.f1), .string (⟨#[]⟩ : ByteArray), .slice none 0 0]) ?_ 3 _ rfl; (with_reducible repeat (first | refine blk_drewN ?_ _ | refine blk_drew ?_ | refine blk_alloc ?_ _)); refine blk_put (cs := #[.string ((rd_T56 t117 x46_2).f0), .int .i64 ((rd_T56 t117 x46_2).f1.f0), .int .i64 0, .string (⟨#[]⟩ : ByteArray), .slice none 0 0]) ?_ 2 _ rfl; (with_reducible repeat (first | refine blk_drewN ?_ _ | refine blk_drew ?_ | refine blk_alloc ?_ _)); refine blk_put (cs := #[.string ((rd_T56 t117 x46_2).f0), .int .i64 0, .int .i64 0, .string (⟨#[]⟩ : ByteArray), .slice none 0 0]) ?_ 1 _ rfl; (with_reducible repeat (first | refine blk_drewN ?_ _ | refine blk_drew ?_ | refine blk_alloc ?_ _)); refine blk_put (cs := #[.string (⟨#[]⟩ : ByteArray), .int .i64 0, .int .i64 0, .string (⟨#[]⟩ : ByteArray), .slice none 0 0]) ?_ 0 _ rfl; (with_reducible repeat (first | refine blk_drewN ?_ _ | refine blk_drew ?_ | refine blk_alloc ?_ _)); exact BK126.out) hb); have n4_ := Aside0.mk (below_step (by repeat (first | (with_reducible first | exact HB.out | apply below_alloc | apply pw_below_drewN | apply below_drew1 | refine below_set ?_ GE126.out) | exact HB.out)) hb); clear HO_44; clear HL125_4; clear HR125_4; clear BK126; clear HB; have HO_44 := n0_; have HL125_4 := n1_; have HR125_4 := n2_; have BK126 := n3_; have HB := n4_; clear n0_ n1_ n2_ n3_ n4_; (try clear hb); (try clear hb2); (try clear hk); (try clear hi); have hcz46_0 : w45.cell? ⟨gb126, 0, none⟩ = some (.string ((rd_T56 t117 x46_2).f0)) := (blk_cell BK126.out 0).trans rfl; have hcz46_1 : w45.cell? ⟨gb126, 1, none⟩ = some (.int .i64 ((rd_T56 t117 x46_2).f1.f0)) := (blk_cell BK126.out 1).trans rfl; have hcz46_2 : w45.cell? ⟨gb126, 2, none⟩ = some (.int .i64 ((rd_T56 t117 x46_2).f1.f1)) := (blk_cell BK126.out 2).trans rfl; have hcz46_3 : w45.cell? ⟨gb126, 3, none⟩ = some (.string ((rd_T56 t117 x46_2).f1.f2)) := (blk_cell BK126.out 3).trans rfl; have hcz46_4 : w45.cell? ⟨gb126, 4, none⟩ = some (.slice A125_4 ((rd_T56 t117 x46_2).f2).length c125_4) := (blk_cell BK126.out 4).trans rfl; have hfz46_0 := blk_frozen BK126.out 0; have hfz46_1 := blk_frozen BK126.out 1; have hfz46_2 := blk_frozen BK126.out 2; have hfz46_3 := blk_frozen BK126.out 3; have hfz46_4 := blk_frozen BK126.out 4) | ((with_reducible refine gate_callee (f := 34) rfl ?_); refine goesL_ (some 57) rfl rfl Tryz.func34 (by kernel_rfl) rfl #[.agg #[.string ((rd_T56 t117 x46_2).f0), .int .i64 ((rd_T56 t117 x46_2).f1.f0), .int .i64 ((rd_T56 t117 x46_2).f1.f1), .string ((rd_T56 t117 x46_2).f1.f2), .slice A125_4 ((rd_T56 t117 x46_2).f2).length c125_4], .string (⟨#[116]⟩ : ByteArray)] rfl (by (try simp only [List.map_toArray, List.map_cons, List.map_nil]); first | done | rfl | (simp only [List.length_drop, List.length_take]; rfl)) ?_; (with_reducible refine (field_Param.calls k2 ((rd_T56 t117 x46_2).f0) ((rd_T56 t117 x46_2).f1.f0) ((rd_T56 t117 x46_2).f1.f1) ((rd_T56 t117 x46_2).f1.f2) _ _ ((rd_T56 t117 x46_2).f2) (⟨#[116]⟩ : ByteArray) t129 t130 _ ?side1 ?side2 A18.out).mono ?_); (case side1 => repeat (first | exact (by repeat (first | (with_reducible exact HR125_4.out) | (with_reducible refine Kd.C_alloc ?_ _) | (with_reducible refine Kd.C_drewN ?_ _) | (with_reducible refine Kd.C_drew ?_) | exact HR125_4.out)) | (with_reducible refine Kd.C_alloc ?_ _) | (with_reducible refine Kd.C_drewN ?_ _) | (with_reducible refine Kd.C_drew ?_))); (case side2 => exact HC125_4.out); rintro e w47 ⟨rfl, hb⟩; refine ⟨_, rfl, ?_⟩; have n0_ := Aside0.mk (Kd.S_below (by (with_reducible repeat (first | apply Kd.S_alloc | apply Kd.S_drewN | apply Kd.S_drew)); exact HO_44.out) hb); have n1_ := Aside0.mk (Kd.R_below (by (with_reducible repeat (first | apply Kd.R_alloc | apply Kd.R_drewN | apply Kd.R_drew)); exact HL125_4.out) hb); have n2_ := Aside0.mk (Kd.C_below (by repeat (first | (with_reducible exact HR125_4.out) | (with_reducible refine Kd.C_alloc ?_ _) | (with_reducible refine Kd.C_drewN ?_ _) | (with_reducible refine Kd.C_drew ?_) | exact HR125_4.out)) hb); have n3_ := Aside0.mk (blk_below (g := gb126) (o := .cells #[.string ((rd_T56 t117 x46_2).f0), .int .i64 ((rd_T56 t117 x46_2).f1.f0), .int .i64 ((rd_T56 t117 x46_2).f1.f1), .string ((rd_T56 t117 x46_2).f1.f2), .slice A125_4 ((rd_T56 t117 x46_2).f2).length c125_4] 56 (0, 0)) (by (with_reducible repeat (first | refine blk_drewN ?_ _ | refine blk_drew ?_ | refine blk_alloc ?_ _)); exact BK126.out) hb); have n4_ := Aside0.mk (below_step (by repeat (first | (with_reducible first | exact HB.out | apply below_alloc | apply pw_below_drewN | apply below_drew1 | refine below_set ?_ GE126.out) | exact HB.out)) hb); clear HO_44; clear HL125_4; clear HR125_4; clear BK126; clear HB; have HO_44 := n0_; have HL125_4 := n1_; have HR125_4 := n2_; have BK126 := n3_; have HB := n4_; clear n0_ n1_ n2_ n3_ n4_; (try clear hb); (try clear hb2); (try clear hk); (try clear hi)))
                      go_roundg k2
                      case measure => have := HJ5.out; have := HK2.out; omega
                      case rel => exact ⟨(x10_2), (x11_2), (wrap64 (x46_2 + 1)), (by first | rfl | (simp; done) | (simp [*]; done)), (by first | rfl | (simp; done) | (simp [*]; done)), (by first | rfl | (simp; done) | (simp [*]; done)), H', ⟨by have := HJ5.out; have := HK2.out; omega⟩, ⟨by (with_reducible repeat (first | apply Kd.S_alloc | apply Kd.S_drewN | apply Kd.S_drew)); exact Kd.S_mono HO_44.out (fun _ hk => trivial)⟩, ⟨by repeat (first | (with_reducible first | exact HB.out | apply below_alloc | apply pw_below_drewN | apply below_drew1 | refine below_set ?_ GE126.out) | exact HB.out)⟩⟩
                  · rw [if_neg c16] at H
                    exact absurd H (by simp)
                · rw [if_neg c15] at H
                  exact absurd H (by simp)
              · rw [if_neg c14] at H
                have c14b0 : decide (x46_2 < (t117.length : Int)) = false := decide_eq_false c14
                clear c14
                simp only [Option.some.injEq, Prod.mk.injEq] at H
                obtain ⟨rfl, rfl⟩ := H
                go_wp2
                go_ret2
                exact ⟨by first | rfl | (simp [errW_none, errW_some] <;> rfl) | (simp [*, errW_none, errW_some] <;> rfl), by repeat (first | (with_reducible first | exact HB.out | apply below_alloc | apply pw_below_drewN | apply below_drew1) | exact HB.out)⟩
  · replace c3 := Bool.eq_false_iff.mpr c3
    subst c3
    have H1 : (some (0, false)) = some (r1, r2) := by rw [if_neg (show ¬ (false = true) by decide)] at H; exact H
    clear H
    have H := H1
    clear H1
    simp only [Option.some.injEq, Prod.mk.injEq] at H
    obtain ⟨rfl, rfl⟩ := H
    go_enter Tryz.func18, Tryz.ntmps18
    go_wp2_with (first | ((with_reducible refine gate_callee (f := 32) rfl ?_); refine goesL_ (some 20) rfl rfl Tryz.func32 (by kernel_rfl) rfl #[.string a0] rfl (by (try simp only [List.map_toArray, List.map_cons, List.map_nil]); first | done | rfl | (simp only [List.length_drop, List.length_take]; rfl)) ?_; (with_reducible refine (field_Parse.calls a0 t117 false _ ?side1 A2.out).mono ?_); (case side1 => exact HG.out.below (by repeat (first | (with_reducible first | exact HB.out | apply below_alloc | apply pw_below_drewN | apply below_drew1) | exact HB.out))); rintro e w48 ⟨v119, rfl, ho0, hb⟩; refine ⟨_, rfl, ?_⟩; have n0_ := Aside0.mk (Kd.S_lower ho0 (below_size (by repeat (first | (with_reducible first | exact HB.out | apply below_alloc | apply pw_below_drewN | apply below_drew1) | exact HB.out)))); have n1_ := Aside0.mk (below_step (by repeat (first | (with_reducible first | exact HB.out | apply below_alloc | apply pw_below_drewN | apply below_drew1) | exact HB.out)) hb); clear HB; have HO120 := n0_; have HB := n1_; clear n0_ n1_; (try clear hb); (try clear hb2); (try clear hk); (try clear hi); (try clear ho0)))
    go_ret2
    exact ⟨by first | rfl | (simp [errW_none, errW_some] <;> rfl) | (simp [*, errW_none, errW_some] <;> rfl), by repeat (first | (with_reducible first | exact HB.out | apply below_alloc | apply pw_below_drewN | apply below_drew1) | exact HB.out)⟩

end
end Go.Proofs.YtelgjeeleofgoaaGreatDoor.PF

/- Package feed: the clock, seconds on, classes, numbers of digits; until when any value says that one should wait. -/
namespace Go.Proofs.YtelgjeeleofgoaaGreatDoor
open Go.RowKit
set_option linter.unusedSimpArgs false
set_option linter.unusedVariables false
attribute [local go_sem] max2_int min2_int max_two min_two

def momM (n : Int) : Int := clampM 0 1099511627776 n
theorem momM_bd (n : Int) : 0 ≤ momM n ∧ momM n ≤ 1099511627776 := clampM_bd _ _ _ (by omega)
set_option maxHeartbeats 400000 in
theorem mom_any (n : Int) (w : World) : Calls Tryz.prog 16 #[.int .i64 n] w fun e w' => e = .returned (.int .i64 (momM n)) ∧ w = w' := by
  go_enter Tryz.func16, Tryz.ntmps16
  go_wp2
  all_goals
    go_ret
    refine ⟨ret_int ?_, rfl⟩
    unfold momM clampM
    (repeat' split) <;> omega

def capM (n : Int) : Int := if 1099511627776 < n then 1099511627776 else n
def laterM (now s : Int) : Option Int := if s < 0 then none else some (capM (tadd now (tmul s 1000)))
set_option maxHeartbeats 400000 in
theorem later_any (now s : Int) (w : World) : Calls Tryz.prog 19 #[.int .i64 now, .int .i64 s] w fun e w' => e = .returned (optV (laterM now s)) ∧ w = w' := by
  by_cases h : s < 0
  · have hfin : laterM now s = none := by unfold laterM; rw [if_pos h]
    rw [hfin]
    clear hfin
    go_enter Tryz.func19, Tryz.ntmps19
    go_wp2_with fail
    go_ret2
    exact ⟨rfl, rfl⟩
  · obtain ⟨r, hr⟩ : ∃ r, capM (tadd now (tmul s 1000)) = r := ⟨_, rfl⟩
    have hfin : laterM now s = some r := by unfold laterM; rw [if_neg h, hr]
    rw [hfin]
    unfold capM at hr
    have HR := Lib.hid hr
    clear hfin hr
    have hmm : ∀ x, x = tadd now (tmul s 1000) → Builtin.min_ #[3, 3] 3 #[.int .i64 x, .int .i64 1099511627776] = pure (.int .i64 r) := fun x hx => by
      rw [min_two, min2_int, hx, HR.out]; rfl
    have HM := Lib.hid hmm
    clear hmm
    go_enter Tryz.func19, Tryz.ntmps19
    go_wp2_with fail
    refine (tmul_any _ _ _).mono ?_
    rintro e w' ⟨rfl, rfl⟩
    go_wp2_with fail
    refine (tadd_any _ _ _).mono ?_
    rintro e w' ⟨rfl, rfl⟩
    go_wp2_with fail
    all_goals
      go_ret2
      refine ⟨?_, rfl⟩
      have hr := HR.out
      split at hr
      all_goals (subst hr; first | rfl | (exfalso; omega))

def classM (n : Int) : Int := if n = 429 ∨ n = 503 then 3 else if 200 ≤ n ∧ n < 400 then 1 else if 400 ≤ n ∧ n < 500 then 2 else 4
set_option maxHeartbeats 1000000 in
theorem class_any (n : Int) (w : World) : Calls Tryz.prog 15 #[.int .i64 n] w fun e w' => e = .returned (.int .i64 (classM n)) ∧ w = w' := by
  by_cases a : n = 429
  · have hfin : classM n = 3 := by unfold classM; rw [if_pos (by omega)]
    have h1 : (n == 429) = true := by simpa using a
    rw [hfin]; clear hfin a
    go_enter Tryz.func15, Tryz.ntmps15
    go_wp2_with fail
    go_ret
    exact ⟨rfl, rfl⟩
  have h1 : (n == 429) = false := by simpa using a
  by_cases b : n = 503
  · have hfin : classM n = 3 := by unfold classM; rw [if_pos (by omega)]
    have h2 : (n == 503) = true := by simpa using b
    rw [hfin]; clear hfin a b
    go_enter Tryz.func15, Tryz.ntmps15
    go_wp2_with fail
    go_ret
    exact ⟨rfl, rfl⟩
  have h2 : (n == 503) = false := by simpa using b
  have hfin : classM n = if 200 ≤ n ∧ n < 400 then 1 else if 400 ≤ n ∧ n < 500 then 2 else 4 := by unfold classM; rw [if_neg (by omega)]
  rw [hfin]; clear hfin a b
  by_cases c : n < 200
  · rw [if_neg (by omega), if_neg (by omega)]
    go_enter Tryz.func15, Tryz.ntmps15
    go_wp2_with fail
    go_ret
    exact ⟨rfl, rfl⟩
  by_cases d : n < 400
  · rw [if_pos (by omega)]
    go_enter Tryz.func15, Tryz.ntmps15
    go_wp2_with fail
    go_ret
    exact ⟨rfl, rfl⟩
  by_cases e : n < 500
  · rw [if_neg (by omega), if_pos (by omega)]
    go_enter Tryz.func15, Tryz.ntmps15
    go_wp2_with fail
    go_ret
    exact ⟨rfl, rfl⟩
  · rw [if_neg (by omega), if_neg (by omega)]
    go_enter Tryz.func15, Tryz.ntmps15
    go_wp2_with fail
    go_ret
    exact ⟨rfl, rfl⟩

def maxI (n : Int) : Int := if 4611686018427387903 < n then 4611686018427387903 else n
def digitsM (s : ByteArray) : Option Int := if digs s.data.toList = true ∧ s.data.toList ≠ [] then some (maxI (numv s.data.toList)) else none
set_option maxHeartbeats 2000000 in
theorem digits_any (s : ByteArray) (w : World) (hG : Glob w) (hs : s.size < 4294967281) :
    Calls Tryz.prog 28 #[.string s] w fun e w' => e = .returned (optV (digitsM s)) ∧ Below w.heap.size w w' := by
  have hs8 : s.size ≤ 9223372036854775807 := by omega
  obtain ⟨o, ho⟩ : ∃ o, digitsM s = o := ⟨_, rfl⟩
  rw [ho]
  have HO := Lib.hid ho
  clear ho
  go_enter Tryz.func28, Tryz.ntmps28
  go_wp2
  go_loopw [] (fun wr => ∃ pos : Nat, pos ≤ s.size ∧ wr = w.iter s pos ∧ digs (s.data.toList.take pos) = true) (fun wr => s.size - wr.iterPos w.heap.size)
  case atStart => exact ⟨0, Nat.zero_le _, rfl, rfl⟩
  case round =>
    obtain ⟨pos, hp, rfl, hd⟩ := hrel
    by_cases hlt : pos < s.size
    · have ts := take_snoc s pos hlt
      by_cases hdg : dig s[pos] = true
      · have hc := dig_yes s pos hlt hdg
        have hnx := fun ty => run_next_ascii (P := Tryz.prog) w s pos ty hlt (by omega)
        have HD := Lib.hid (digs_snoc (s.data.toList.take pos) s[pos])
        have HT := Lib.hid ts; clear ts
        have HG := Lib.hid hdg; clear hdg
        have HE := Lib.hid hd; clear hd
        go_wp2
        go_roundw
        case rel => exact ⟨pos + 1, by omega, rfl, by rw [HT.out, HD.out, HE.out, HG.out]; rfl⟩
        case measure => simp; omega
      · have hdg' : dig s[pos] = false := by simpa using hdg
        have hr := rune_no s pos hlt hdg'
        have hnx := fun ty => run_next_any (P := Tryz.prog) w s pos ty hlt
        have hfin : digitsM s = none := by unfold digitsM; rw [digs_not s pos hlt hdg']; simp
        obtain rfl : none = o := hfin.symm.trans HO.out
        clear hfin ts hdg hdg' hd HO
        generalize (Utf8.decode s pos).1 = r at *
        go_wp2
        all_goals
          go_ret2
          exact ⟨rfl, ((Below.refl _ _).alloc (Nat.le_refl _) _)⟩
    · have hnx := fun ty => run_next_end (P := Tryz.prog) w s pos ty hlt
      have ta := take_all s pos (by omega)
      rw [ta] at hd
      have hB : Below w.heap.size w (w.iter s pos) := (Below.refl _ _).alloc (Nat.le_refl _) _
      clear ta
      by_cases he : s.data.toList = []
      · have hfin : digitsM s = none := by unfold digitsM; rw [if_neg (fun h => h.2 he)]
        obtain rfl : none = o := hfin.symm.trans HO.out
        have k1 : s.toList.isEmpty = true := by rw [Lib.toList_data, he]; rfl
        clear hfin hd HO he
        go_wp2
        go_ret2
        exact ⟨rfl, hB⟩
      · have k1 : s.toList.isEmpty = false := by rw [Lib.toList_data]; simpa using he
        have HG2 := Lib.hid (hG.below hB)
        by_cases hn : numv s.data.toList ≤ 9223372036854775807
        · have hfin : digitsM s = some (maxI (numv s.data.toList)) := by unfold digitsM; rw [if_pos ⟨hd, he⟩]
          obtain ⟨m, hm⟩ : ∃ m, maxI (numv s.data.toList) = m := ⟨_, rfl⟩
          rw [hm] at hfin
          obtain rfl : some m = o := hfin.symm.trans HO.out
          have HA := Lib.hid (fun W => atoi_yes s W hs hd he hn)
          have HM := Lib.hid hm
          have hnn := (numv_bd s.size s.data.toList (by simp) hd).1
          clear hfin hd HO he hm
          go_wp2_with fail
          refine (HA.out _).mono ?_
          rintro e w1 ⟨rfl, hB1⟩
          generalize numv s.data.toList = n at *
          go_wp2
          all_goals
            go_ret2
            refine ⟨?_, hB.trans (hB1.mono hB.size)⟩
            have hm := HM.out
            unfold maxI at hm
            first | rw [if_pos (by omega)] at hm | rw [if_neg (by omega)] at hm
            rw [← hm]
            rfl
        · have hfin : digitsM s = some 4611686018427387903 := by unfold digitsM; rw [if_pos ⟨hd, he⟩]; unfold maxI; rw [if_pos (by omega)]
          obtain rfl : some 4611686018427387903 = o := hfin.symm.trans HO.out
          have HA := Lib.hid (fun W hW => atoi_big s W hW hs hd he hn)
          clear hfin hd HO he
          go_wp2_with fail
          refine (HA.out _ HG2.out).mono ?_
          rintro e w1 ⟨⟨n, N, rfl⟩, hB1⟩
          go_wp2
          go_ret2
          exact ⟨rfl, hB.trans (hB1.mono hB.size)⟩
end Go.Proofs.YtelgjeeleofgoaaGreatDoor

/- date.Parse and feed.digits, in the print's form. -/
namespace Go.Proofs.YtelgjeeleofgoaaGreatDoor
open Go.RowKit
noncomputable def date_Parse.f (s : ByteArray) (now : Int) : Option (Int × Bool) :=
  if s.size < 4294967281 then some ((parseM s now).getD 0, (parseM s now).isSome) else none
theorem date_Parse.calls (a0 : ByteArray) (a1 : Int) (r1 : Int) (r2 : Bool) (w : World) (hG : Glob w) (h : date_Parse.f a0 a1 = some (r1, r2)) :
    Calls Tryz.prog 29 #[.string a0, .int .i64 a1] w fun e w' => e = .returned (.tuple #[.int .i64 r1, .bool r2]) ∧ Below w.heap.size w w' := by
  unfold date_Parse.f at h
  split at h
  · rename_i hs
    simp only [Option.some.injEq, Prod.mk.injEq] at h
    obtain ⟨rfl, rfl⟩ := h
    exact parse_any a0 a1 w hG hs
  · cases h
def feed_digits.f (s : ByteArray) : Option (Int × Bool) :=
  if s.size < 4294967281 then some ((digitsM s).getD 0, (digitsM s).isSome) else none
theorem feed_digits.calls (a0 : ByteArray) (r1 : Int) (r2 : Bool) (w : World) (hG : Glob w) (h : feed_digits.f a0 = some (r1, r2)) :
    Calls Tryz.prog 28 #[.string a0] w fun e w' => e = .returned (.tuple #[.int .i64 r1, .bool r2]) ∧ Below w.heap.size w w' := by
  unfold feed_digits.f at h
  split at h
  · rename_i hs
    simp only [Option.some.injEq, Prod.mk.injEq] at h
    obtain ⟨rfl, rfl⟩ := h
    exact digits_any a0 w hG hs
  · cases h
end Go.Proofs.YtelgjeeleofgoaaGreatDoor
