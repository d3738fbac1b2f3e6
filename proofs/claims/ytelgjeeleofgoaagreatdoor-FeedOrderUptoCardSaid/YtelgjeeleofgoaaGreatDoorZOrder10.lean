/- A part of the proof (see the last text): texts of the session and printed words, put together by a program of the session. -/
import Derived.Test.YtelgjeeleofgoaaGreatDoorZOrder9
import Derived.Test.YtelgjeeleofgoaaGreatDoorZLater2
import Derived.Test.YtelgjeeleofgoaaGreatDoorZOrder8
import Derived.Deep.SlicePairs
import Derived.ShutString
import Derived.Carry
/- A row's argument of type []api.Header, read: a list of headers; and what the bound of the second form gives of it. -/
namespace Go.Proofs.YtelgjeeleofgoaaGreatDoor
open Go.ChangeShapes Go.WideShapes Go.ChangeAt Go.RowKit Go.Proofs.YtelgjeeleofgoaaGreatDoorW.PrintWords PF
set_option linter.unusedVariables false

theorem bulk_part {H : Type} {d : DataW H} {l : List (DataW H)} (h : d ∈ l) : Rows.uptoBulk d ≤ Rows.uptoBulkAll l := by
  induction l with
  | nil => cases h
  | cons x r ih =>
    simp only [Rows.uptoBulkAll]
    cases List.mem_cons.1 h with
    | inl e => subst e; omega
    | inr e => have := ih e; omega
theorem bulk_bound {H : Type} {l : List (DataW H)} (hk : Rows.uptoSmall H l = true) : Rows.uptoBulkAll l ≤ 1048576 := of_decide_eq_true hk
instance : Inhabited Hd := ⟨z36⟩
theorem laidOut : laidOutB Tryz.prog = true := by kernel_rfl
/-- The headers of a datum are short. -/
def ShortD {H : Type} (d : DataW H) (l : List Hd) : Prop := Rows.uptoBulk d ≤ 1048576 → Short 1048576 l
theorem heads_open {H : Type} {enc : TypeId × Value → H} {W : World} {A : Option Addr} {len cap : Nat} {d : DataW H} {p : List MemPlace}
    (h : DataW.Trod enc Tryz.prog W 0 (fun _ => true) true 22 (.slice A len cap) d p) :
    ∃ l : List Hd, l.length = len ∧ len ≤ cap ∧ Kd.C k36 W A l.length l ∧ ShortD d l := by
  obtain ⟨fuel, hf⟩ := h
  rcases Go.Deep.open_slice_pairs Tryz.underlying22 Tryz.underlying36 (by kernel_rfl) rfl rfl (by kernel_rfl) (by kernel_rfl) hf with ⟨hcs, _⟩ | ⟨a, l, c, m, n, V0, V1, D0, D1, P0, P1, hcs, _, hl, hm, hmm, hx, hc⟩
  · simp [Value.cells] at hcs
    obtain ⟨rfl, rfl, rfl⟩ := hcs
    exact ⟨[], rfl, Nat.le_refl _, ⟨rfl, by simp, fun h => absurd h (by simp)⟩, fun _ x hx => by cases hx⟩
  · simp [Value.cells] at hcs
    obtain ⟨rfl, rfl, rfl⟩ := hcs
    have hmc : m = cap := by simpa using hmm
    subst hmc
    have each : ∀ i, i < len → ∃ x : Hd, V0 i = .string x.f0 ∧ V1 i = .string x.f1 ∧ D0 i = .lit (.string x.f0.data.toList) ∧ D1 i = .lit (.string x.f1.data.toList) := by
      intro i hi
      obtain ⟨_, _, h0, h1⟩ := hc i (by omega)
      obtain ⟨s0, e0, d0, _⟩ := DataW.trod_string Tryz.underlying9 h0
      obtain ⟨s1, e1, d1, _⟩ := DataW.trod_string Tryz.underlying9 h1
      simp only [List.cons.injEq, and_true, Prod.mk.injEq] at e0 d0 e1 d1
      exact ⟨⟨s0, s1⟩, e0, e1, d0.1, d1.1⟩
    obtain ⟨q, hq⟩ := Go.Deep.choose_lt each
    refine ⟨(List.range len).map q, by simp, hl, ?_, ?_⟩
    · refine ⟨rfl, by rw [List.length_map, List.length_range]; unfold maxLen at hm; omega, fun _ => ⟨a, rfl, fun j x hj => ?_⟩⟩
      rw [List.getElem?_map] at hj
      obtain ⟨i, hi, rfl⟩ := Option.map_eq_some_iff.1 hj
      obtain ⟨hjl, hij⟩ := List.getElem?_eq_some_iff.1 hi
      simp only [List.length_range] at hjl
      simp only [List.getElem_range] at hij
      subst hij
      obtain ⟨e0, e1, _, _⟩ := hq j hjl
      obtain ⟨c0, c1, _, _⟩ := hc j (by omega)
      refine ⟨[.string (q j).f0, .string (q j).f1], rfl, k36_mk W (q j), fun k u hk => ?_⟩
      match k, hk with
      | 0, hk => simp at hk; subst hk; rw [← e0]; exact c0
      | 1, hk => simp at hk; subst hk; rw [← e1]; exact c1
    · intro hb x hxm
      simp only [Prod.mk.injEq] at hx
      obtain ⟨rfl, _⟩ := hx
      obtain ⟨i, hi, rfl⟩ := List.mem_map.1 hxm
      have hil := List.mem_range.1 hi
      have hp := bulk_part (H := H) (List.mem_map.2 ⟨i, hi, rfl⟩ : DataW.agg [D0 i, D1 i] ∈ (List.range len).map fun i => DataW.agg [D0 i, D1 i])
      obtain ⟨_, _, d0, d1⟩ := hq i hil
      simp only [Rows.uptoBulk] at hb
      rw [d0, d1] at hp
      simp only [Rows.uptoBulk, Rows.uptoBulkAll] at hp
      have s0 : (q i).f0.data.toList.length = (q i).f0.size := Array.length_toList
      have s1 : (q i).f1.data.toList.length = (q i).f1.size := Array.length_toList
      omega
end Go.Proofs.YtelgjeeleofgoaaGreatDoor
