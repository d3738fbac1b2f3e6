/- A part of the proof (see the last text): texts of the session and printed words, put together by a program of the session. -/
import Derived.Test.YtelgjeeleofgoaaGreatDoorProg
import Derived.WalkKit
import Derived.WalkSmall
import Derived.Below
import Derived.Shelf.Strings.Fields
import Derived.Test.YtelgjeeleofgoaaGreatDoorCards
import Derived.LaidMore
import Derived.Lay
import Derived.Lib.LaidTab
import Derived.Shelf.Vars
import Derived.MakeChecks
import Derived.ProofKit
import Derived.OpenShut
import Derived.Deep.DeepHandedRow
import Derived.Deep.Draws
import Derived.Deep.AppendLies
import Derived.Maps.AppendAt
import Derived.OwnWalk
import Derived.Laws.BytesArg
import Derived.Laws.MakeOwn
import Derived.Laws.OwnMore
import Derived.Deep.OwnRows
import Derived.Tactics
import Derived.Lib.ConvBytes
import Derived.Laws.Slices
import Derived.KernelRfl
import Derived.RowKit3
import Derived.Deep.LoopGhost
import Derived.Deep.QuietTactic
import Derived.BigQuiet
import Derived.WideLaws
import Derived.Deep.DeepCutAuto
import Derived.Deep.CutBlock
import Derived.Deep.RegionHeld3
import Derived.Laws.Rows
import Derived.Lib.AppendStr
import Derived.ArgAppend
import Derived.Laws.IdiomCopy
import Derived.OrdersHeld
import Derived.Laws.BitsLemmas
import Derived.RowKit
import Derived.Test.YtelgjeeleofgoaaGreatDoorZLater1
import Derived.Shelf.Strings.SlTrimAscii
import Derived.Shelf.Strings.Trim
import Derived.Shelf.Small.Utf8
import Derived.Shelf.Small.Strs
import Derived.Shelf.Strconv.Atoi
import Derived.Shelf.Strconv.AtoiErrFast
import Derived.Shelf.Strconv.ParseIntEmpty
import Derived.Shelf.Strconv.AtoiFail
import Derived.Shelf.LaysM
import Derived.Shelf.Strconv.Clone
import Derived.Shelf.Strconv.SyntaxError
import Derived.Shelf.LaysC
import Derived.Shelf.Strconv.ToError
import Derived.Shelf.Strconv.Lower
import Derived.Shelf.Strconv.ParseUint10
import Derived.Shelf.Strconv.ParseUint10Empty
import Derived.Shelf.Strconv.ParseUint10Any
import Derived.Shelf.Strconv.ParseInt10
import Derived.Shelf.Strconv.AtoiLong
import Derived.Shelf.Strconv.AtoiInnerAll
import Derived.Shelf.Strconv.RangeError
import Derived.Shelf.Strconv.ToErrorRange
import Derived.Shelf.Strconv.AtoiAll
import Derived.Shelf.Strconv.ErrVarAll
import Derived.Shelf.Strings.Search1
import Derived.Shelf.Strings.Search2
import Derived.Shelf.Strings.Search3
import Derived.Shelf.Strings.Count
import Derived.Shelf.Strings.Shaped
import Derived.Shelf.Strings.Prefix
import Derived.Shelf.Strings.Split
import Derived.Shelf.Strings.SplitShaped
import Derived.Shelf.Unicode.Latin
import Derived.Shelf.Unicode.Decode
import Derived.Shelf.Strings.Runes
import Derived.Shelf.Strings.RuneCount
import Derived.Shelf.Strings.AsciiSet
import Derived.Shelf.Strings.Explode
import Derived.Shelf.Bits.Mul64
import Derived.Shelf.Unicode.DecodeSlow
import Derived.Shelf.Unicode.Is16White
import Derived.Shelf.Unicode.IsSpaceAny
import Derived.Shelf.Unicode.Is16Any
import Derived.Shelf.Unicode.Is32Any
import Derived.Shelf.Unicode.ExclAny
import Derived.Shelf.Slices.Turned
import Derived.Lib.Hide
import Derived.Lib.AtoiAll
import Derived.WalkSpells
import Derived.Lib.IndexLaws
/- What the library's variables hold: the premise of every contract that reaches a library function which reads one. -/
namespace Go.Proofs.YtelgjeeleofgoaaGreatDoor
open Go.RowKit
/-- What the library's variables hold. -/
structure Glob (w : World) : Prop where
  maxLen : ∃ m, w.cell? ⟨5, 0, none⟩ = some (.int .i64 m)
  space : Lib.TabIs Tryz.prog w "strings.asciiSpace" .u8 Lib.asciiSpaceTab
  syn : ∃ te pe, w.cell? ⟨2, 0, none⟩ = some (.iface te pe)
  big : 4 < w.heap.size
  rng : ∃ te pe, w.cell? ⟨3, 0, none⟩ = some (.iface te pe)
theorem Glob.below {w w' : World} (h : Glob w) (hb : Below w.heap.size w w') : Glob w' := by
  obtain ⟨⟨m, h1⟩, h2, ⟨te, pe, h3⟩, h5, ⟨te', pe', h4⟩⟩ := h
  have keep : ∀ a v, w.cell? a = some v → w'.cell? a = some v := fun a v h => by rw [hb.cell (World.block_lt_of_cell? w a h)]; exact h
  exact ⟨⟨m, keep _ _ h1⟩, var?_below hb (by kernel_rfl) h5 h2, ⟨te, pe, keep _ _ h3⟩, Nat.lt_of_lt_of_le h5 hb.size, ⟨te', pe', keep _ _ h4⟩⟩

end Go.Proofs.YtelgjeeleofgoaaGreatDoor

/- What a row of this seat lists of the library's variables gives what the contracts ask of them; and a world for the witness. -/
namespace Go.Proofs.YtelgjeeleofgoaaGreatDoor
open Go.ChangeShapes Go.WideShapes Go.ChangeAt Go.RowKit
set_option linter.unusedVariables false

def laidL : List (String × DataW Unit) := Rows.feedMostUptoRow.laid
theorem laid_at {P : Program} {W : World} : ∀ {laid : List (String × DataW Unit)} {ps : List MemPlace}, DataW.LaidVars P W laid ps → ∀ n d, (n, d) ∈ laid →
    ∃ g t cs fuel p, P.globalNamed n = some g ∧ (P.globals[g]?).map (·.type) = some t ∧ W.var? P n = some cs ∧ DataW.trod (fun _ => ()) P W 0 (fun _ => true) false fuel t cs.toList = some (d, p)
  | [], _, _, _, _, h => by cases h
  | (n', d') :: r, ps, hl, n, d, h => by
    obtain ⟨g, t, cs, fuel, p, q, h1, h2, h3, h4, h5, _⟩ := hl
    rcases List.mem_cons.1 h with e | h
    · cases e
      exact ⟨g, t, cs, fuel, p, h1, h2, h3, h4⟩
    · exact laid_at h5 n d h
theorem met_parts {W : World} (hL : laidMetH Tryz.prog laidL W) : ∃ ps, DataW.LaidVars Tryz.prog W laidL ps := by
  rw [MakeChecks.laidMetH_plain _ _ _ (by kernel_rfl)] at hL
  exact ⟨_, hL.choose_spec.1⟩
theorem iface_cell {P : Program} {W : World} {enc : TypeId × Value → Unit} {t : TypeId} {ms : Array (String × TypeId)} {nm : String} {d : DataW Unit} {fuel : Nat} {cs : List Value} {p : List MemPlace}
    (ht : P.underlying t = some (.interface ms)) (h : DataW.trod enc P W 0 (fun _ => true) false fuel t cs = some (.iface nm d, p)) : ∃ te pe, cs = [.iface te pe] := by
  cases fuel with
  | zero => simp [DataW.trod] at h
  | succ n =>
    unfold DataW.trod at h
    rw [ht] at h
    match cs, h with
    | [], h => simp at h
    | [v], h =>
      cases v with
      | iface u x => exact ⟨u, x, rfl⟩
      | _ => simp at h
    | _ :: _ :: _, h => simp at h
theorem err_cell {W : World} (hL : laidMetH Tryz.prog laidL W) (g : Nat) (n : String) (d : DataW Unit) (nm : String) (hg : Tryz.prog.globalNamed n = some g) (hty : (Tryz.prog.globals[g]?).map (·.type) = some 68) (hm : (n, DataW.iface nm d) ∈ laidL) :
    ∃ te pe, W.cell? ⟨g, 0, none⟩ = some (.iface te pe) := by
  obtain ⟨ps, hp⟩ := met_parts hL
  obtain ⟨g', t, cs, fuel, p, h1, h2, h3, h4⟩ := laid_at hp n _ hm
  obtain rfl := Option.some.inj (hg.symm.trans h1)
  obtain rfl := Option.some.inj (hty.symm.trans h2)
  obtain ⟨te, pe, e⟩ := iface_cell Tryz.underlying68 h4
  refine ⟨te, pe, ?_⟩
  have := World.var?_cell hg h3 0
  rw [this]
  have e2 : cs = #[.iface te pe] := by cases cs; simp_all
  rw [e2]
  rfl
theorem sp_eq : (Rows.laid_strings_asciiSpace : DataW Unit) = Lib.tabData .u8 Lib.asciiSpaceTab := by kernel_rfl
theorem glob_of {W : World} (hL : laidMetH Tryz.prog laidL W) (hS : W.ShapedOpen Tryz.prog) : Glob W := by
  have hsp : Lib.TabIs Tryz.prog W "strings.asciiSpace" .u8 Lib.asciiSpaceTab := by
    obtain ⟨ps, hp⟩ := met_parts hL
    obtain ⟨g', t, cs, fuel, p, h1, h2, h3, h4⟩ := laid_at hp "strings.asciiSpace" Rows.laid_strings_asciiSpace (by unfold laidL Rows.feedMostUptoRow; simp)
    obtain rfl := Option.some.inj ((show Tryz.prog.globalNamed "strings.asciiSpace" = some 4 by kernel_rfl).symm.trans h1)
    obtain rfl := Option.some.inj ((show (Tryz.prog.globals[4]?).map (·.type) = some 136 by kernel_rfl).symm.trans h2)
    rw [sp_eq] at h4
    have h5 := Lib.cells_of_tab (k := .u8) (zs := Lib.asciiSpaceTab) Tryz.underlying136 Tryz.underlying5 (by kernel_rfl) (by kernel_rfl) h4
    unfold Lib.TabIs
    rw [h3, ← h5]
  have hsg : Tryz.prog.globalNamed "strings.asciiSpace" = some 4 := by kernel_rfl
  refine ⟨?_, hsp, ?_, ?_, ?_⟩
  · exact cell_of_shapedOpen_int (zero := #[.int .i64 0]) (t := 3) (k := .i64) hS (of_decide_eq_true (by kernel_rfl)) (by kernel_rfl) rfl (by kernel_rfl) (by kernel_rfl) Tryz.underlying3
  · exact err_cell hL _ "strconv.ErrSyntax" _ _ (by kernel_rfl) (by kernel_rfl) (show ("strconv.ErrSyntax", Rows.laid_strconv_ErrSyntax) ∈ laidL by unfold laidL Rows.feedMostUptoRow; simp)
  · exact World.block_lt_of_cell? W ⟨4, 0, none⟩ (hsp.cell hsg 0 (of_decide_eq_true (by kernel_rfl)))
  · exact err_cell hL _ "strconv.ErrRange" _ _ (by kernel_rfl) (by kernel_rfl) (show ("strconv.ErrRange", Rows.laid_strconv_ErrRange) ∈ laidL by unfold laidL Rows.feedMostUptoRow; simp)
theorem met_laid (os : Os) (args : Array Value) : laidMetH Tryz.prog laidL ((World.laidAll Tryz.prog os laidL).forCall (fun _ _ => 0) ⟨#[], args, []⟩).memory := by
  rw [MakeChecks.laidMetH_plain _ _ _ (by kernel_rfl)]
  exact laidMet_laidAll _ (by kernel_rfl) (by kernel_rfl)
theorem shaped_laid (os : Os) (args : Array Value) : ((World.laidAll Tryz.prog os laidL).forCall (fun _ _ => 0) ⟨#[], args, []⟩).Shaped Tryz.prog :=
  World.shaped_of_ZipB (by kernel_rfl) (by kernel_rfl)
end Go.Proofs.YtelgjeeleofgoaaGreatDoor

-- Printed by a program of this session (wip/pp.sh) out of the translation. Not trusted: Lean checks it.
namespace Go.Proofs.YtelgjeeleofgoaaGreatDoor.PF
open Go.RowKit Go.Proofs.YtelgjeeleofgoaaGreatDoorW.PrintWords Go.Proofs.YtelgjeeleofgoaaGreatDoorW.PrintLast Go.Proofs.YtelgjeeleofgoaaGreatDoorW.PrintMore
attribute [local go_sem] max2_int min2_int max_two min_two max_three min_three max_four min_four   -- for this text's walks alone
set_option linter.unusedVariables false
set_option linter.unusedSimpArgs false
noncomputable section



def errW : Option Int → Value
  | none => .nilIface
  | some c => .iface 0 (.int .i64 c)
theorem errW_none : errW none = .nilIface := rfl
theorem errW_some (c : Int) : errW (some c) = .iface 0 (.int .i64 c) := rfl

theorem info3 : (Tryz.prog.info? 3).map (fun i => (i.zero, i.size, i.bytes)) = some (some (.int .i64 0), 1, 8) := by kernel_rfl
theorem info5 : (Tryz.prog.info? 5).map (fun i => (i.zero, i.size, i.bytes)) = some (some (.int .u8 0), 1, 1) := by kernel_rfl
theorem info9 : (Tryz.prog.info? 9).map (fun i => (i.zero, i.size, i.bytes)) = some (some (.string ⟨#[]⟩), 1, 16) := by kernel_rfl
theorem info36 : (Tryz.prog.info? 36).map (fun i => (i.zero, i.size, i.bytes)) = some (some (.agg #[(.string ⟨#[]⟩), (.string ⟨#[]⟩)]), 2, 32) := by kernel_rfl
theorem info56 : (Tryz.prog.info? 56).map (fun i => (i.zero, i.size, i.bytes)) = some (some (.agg #[(.string ⟨#[]⟩), (.int .i64 0), (.int .i64 0), (.string ⟨#[]⟩), (.slice none 0 0)]), 5, 72) := by kernel_rfl
theorem info87 : (Tryz.prog.info? 87).map (fun i => (i.zero, i.size, i.bytes)) = some (some (.agg #[(.string ⟨#[]⟩), (.int .i64 0), (.int .i64 0), (.string ⟨#[]⟩)]), 4, 48) := by kernel_rfl
-- the values' own types
/-! #### struct type 36 -/
structure S36 where
  f0 : ByteArray
  f1 : ByteArray
def z36 : S36 := ⟨(⟨#[]⟩ : ByteArray), (⟨#[]⟩ : ByteArray)⟩
def k36 : Kd S36 := Kd.iso (Kd.pair Kd.string Kd.string) (fun x : S36 => (x.f0, x.f1))
theorem k36_open {w : World} {x : S36} {cs : List Value} (h : k36.K w x cs) : cs = [.string x.f0, .string x.f1] := by
  obtain ⟨_, _, rfl, rfl, rfl⟩ := h
  exact rfl
theorem k36_openM {w : World} {base : Nat} {ok : Nat → Prop} {x : S36} {cs : List Value} (h : k36.M w base ok x cs) : cs = [.string x.f0, .string x.f1] := by
  obtain ⟨_, _, rfl, rfl, rfl⟩ := h
  exact rfl
theorem k36_mk (w : World) (x : S36)  : k36.K w x [.string x.f0, .string x.f1] := ⟨[.string x.f0], [.string x.f1], rfl, rfl, rfl⟩
theorem k36_mkM (w : World) (base : Nat) (ok : Nat → Prop) (x : S36)  : k36.M w base ok x [.string x.f0, .string x.f1] := ⟨[.string x.f0], [.string x.f1], rfl, rfl, rfl⟩
def rd_T36 (xs : List S36) (i : Int) : S36 := xs.getD i.toNat z36
theorem at_T36 {w : World} {A : Option Addr} {n : Nat} {xs : List S36} (h : Kd.C k36 w A n xs) (i : Int) (h0 : 0 ≤ i) (h1 : i < n) : ∃ ad , A = some ad ∧ w.cell? (ad.add (i.toNat * 2)) = some (.string (rd_T36 xs i).f0) ∧ w.cell? ⟨(ad.add (i.toNat * 2)).block, (ad.add (i.toNat * 2)).off + 1, none⟩ = some (.string (rd_T36 xs i).f1) := by
  obtain ⟨ad, c, e, _, hK, hc0⟩ := Kd.C_get h z36 i h0 h1
  have hc : ∀ j u, c[j]? = some u → w.cell? (ad.add (i.toNat * 2 + j)) = some u := hc0
  obtain rfl := k36_open hK
  exact ⟨ad, e, hc 0 _ rfl, by rw [← add_field _ _ 1 (by omega)]; exact hc 1 _ rfl⟩

/-! #### struct type 53 -/
structure S53 where
  f0 : Int
  f1 : Int
  f2 : ByteArray
def z53 : S53 := ⟨(0 : Int), (0 : Int), (⟨#[]⟩ : ByteArray)⟩
def k53 : Kd S53 := Kd.iso (Kd.pair (Kd.int .i64) (Kd.pair (Kd.int .i64) Kd.string)) (fun x : S53 => (x.f0, x.f1, x.f2))
theorem k53_open {w : World} {x : S53} {cs : List Value} (h : k53.K w x cs) : cs = [.int .i64 x.f0, .int .i64 x.f1, .string x.f2] := by
  obtain ⟨_, _, rfl, rfl, ⟨_, _, rfl, rfl, rfl⟩⟩ := h
  exact rfl
theorem k53_openM {w : World} {base : Nat} {ok : Nat → Prop} {x : S53} {cs : List Value} (h : k53.M w base ok x cs) : cs = [.int .i64 x.f0, .int .i64 x.f1, .string x.f2] := by
  obtain ⟨_, _, rfl, rfl, ⟨_, _, rfl, rfl, rfl⟩⟩ := h
  exact rfl
theorem k53_mk (w : World) (x : S53)  : k53.K w x [.int .i64 x.f0, .int .i64 x.f1, .string x.f2] := ⟨[.int .i64 x.f0], [.int .i64 x.f1, .string x.f2], rfl, rfl, ⟨[.int .i64 x.f1], [.string x.f2], rfl, rfl, rfl⟩⟩
theorem k53_mkM (w : World) (base : Nat) (ok : Nat → Prop) (x : S53)  : k53.M w base ok x [.int .i64 x.f0, .int .i64 x.f1, .string x.f2] := ⟨[.int .i64 x.f0], [.int .i64 x.f1, .string x.f2], rfl, rfl, ⟨[.int .i64 x.f1], [.string x.f2], rfl, rfl, rfl⟩⟩
def rd_T53 (xs : List S53) (i : Int) : S53 := xs.getD i.toNat z53
theorem at_T53 {w : World} {A : Option Addr} {n : Nat} {xs : List S53} (h : Kd.C k53 w A n xs) (i : Int) (h0 : 0 ≤ i) (h1 : i < n) : ∃ ad , A = some ad ∧ w.cell? (ad.add (i.toNat * 3)) = some (.int .i64 (rd_T53 xs i).f0) ∧ w.cell? ⟨(ad.add (i.toNat * 3)).block, (ad.add (i.toNat * 3)).off + 1, none⟩ = some (.int .i64 (rd_T53 xs i).f1) ∧ w.cell? ⟨(ad.add (i.toNat * 3)).block, (ad.add (i.toNat * 3)).off + 2, none⟩ = some (.string (rd_T53 xs i).f2) := by
  obtain ⟨ad, c, e, _, hK, hc0⟩ := Kd.C_get h z53 i h0 h1
  have hc : ∀ j u, c[j]? = some u → w.cell? (ad.add (i.toNat * 3 + j)) = some u := hc0
  obtain rfl := k53_open hK
  exact ⟨ad, e, hc 0 _ rfl, by rw [← add_field _ _ 1 (by omega)]; exact hc 1 _ rfl, by rw [← add_field _ _ 2 (by omega)]; exact hc 2 _ rfl⟩

/-! #### struct type 87 -/
structure S87 where
  f0 : ByteArray
  f1 : S53
def z87 : S87 := ⟨(⟨#[]⟩ : ByteArray), z53⟩
def k87 : Kd S87 := Kd.iso (Kd.pair Kd.string k53) (fun x : S87 => (x.f0, x.f1))
theorem k87_open {w : World} {x : S87} {cs : List Value} (h : k87.K w x cs) : cs = [.string x.f0, .int .i64 x.f1.f0, .int .i64 x.f1.f1, .string x.f1.f2] := by
  obtain ⟨_, _, rfl, rfl, s1⟩ := h
  obtain rfl := k53_open s1
  exact rfl
theorem k87_openM {w : World} {base : Nat} {ok : Nat → Prop} {x : S87} {cs : List Value} (h : k87.M w base ok x cs) : cs = [.string x.f0, .int .i64 x.f1.f0, .int .i64 x.f1.f1, .string x.f1.f2] := by
  obtain ⟨_, _, rfl, rfl, s1⟩ := h
  obtain rfl := k53_openM s1
  exact rfl
theorem k87_mk (w : World) (x : S87)  : k87.K w x [.string x.f0, .int .i64 x.f1.f0, .int .i64 x.f1.f1, .string x.f1.f2] := ⟨[.string x.f0], [.int .i64 x.f1.f0, .int .i64 x.f1.f1, .string x.f1.f2], rfl, rfl, (k53_mk w x.f1 )⟩
theorem k87_mkM (w : World) (base : Nat) (ok : Nat → Prop) (x : S87)  : k87.M w base ok x [.string x.f0, .int .i64 x.f1.f0, .int .i64 x.f1.f1, .string x.f1.f2] := ⟨[.string x.f0], [.int .i64 x.f1.f0, .int .i64 x.f1.f1, .string x.f1.f2], rfl, rfl, (k53_mkM w base ok x.f1 )⟩
def rd_T87 (xs : List S87) (i : Int) : S87 := xs.getD i.toNat z87
theorem at_T87 {w : World} {A : Option Addr} {n : Nat} {xs : List S87} (h : Kd.C k87 w A n xs) (i : Int) (h0 : 0 ≤ i) (h1 : i < n) : ∃ ad , A = some ad ∧ w.cell? (ad.add (i.toNat * 4)) = some (.string (rd_T87 xs i).f0) ∧ w.cell? ⟨(ad.add (i.toNat * 4)).block, (ad.add (i.toNat * 4)).off + 1, none⟩ = some (.int .i64 (rd_T87 xs i).f1.f0) ∧ w.cell? ⟨(ad.add (i.toNat * 4)).block, (ad.add (i.toNat * 4)).off + 2, none⟩ = some (.int .i64 (rd_T87 xs i).f1.f1) ∧ w.cell? ⟨(ad.add (i.toNat * 4)).block, (ad.add (i.toNat * 4)).off + 3, none⟩ = some (.string (rd_T87 xs i).f1.f2) := by
  obtain ⟨ad, c, e, _, hK, hc0⟩ := Kd.C_get h z87 i h0 h1
  have hc : ∀ j u, c[j]? = some u → w.cell? (ad.add (i.toNat * 4 + j)) = some u := hc0
  obtain rfl := k87_open hK
  exact ⟨ad, e, hc 0 _ rfl, by rw [← add_field _ _ 1 (by omega)]; exact hc 1 _ rfl, by rw [← add_field _ _ 2 (by omega)]; exact hc 2 _ rfl, by rw [← add_field _ _ 3 (by omega)]; exact hc 3 _ rfl⟩

def rd_L5 (xs : List (List S87)) (i : Int) : (List S87) := xs.getD i.toNat ([] : List S87)
theorem at_L5 {w : World} {A : Option Addr} {n : Nat} {xs : List (List S87)} (h : Kd.C (Kd.slice 87 k87) w A n xs) (i : Int) (h0 : 0 ≤ i) (h1 : i < n) : ∃ ad A0 c0, A = some ad ∧ w.cell? (ad.add i.toNat) = some (.slice A0 (rd_L5 xs i).length c0) ∧ (rd_L5 xs i).length ≤ c0 ∧ k87.C w A0 (rd_L5 xs i).length (rd_L5 xs i) := by
  obtain ⟨ad, c, e, _, hK, hc0⟩ := Kd.C_get h ([] : List S87) i h0 h1
  have hc : ∀ j u, c[j]? = some u → w.cell? (ad.add (i.toNat * 1 + j)) = some u := hc0
  obtain ⟨A0, c0, rfl, l0, g0⟩ := hK
  exact ⟨ad, A0, c0, e, by have hq := hc 0 _ rfl; rwa [Nat.mul_one, Nat.add_zero] at hq, l0, g0⟩

/-! #### struct type 56 -/
structure S56 where
  f0 : ByteArray
  f1 : S53
  f2 : (List S87)
def z56 : S56 := ⟨(⟨#[]⟩ : ByteArray), z53, ([] : List S87)⟩
def k56 : Kd S56 := Kd.iso (Kd.pair Kd.string (Kd.pair k53 (Kd.slice 87 k87))) (fun x : S56 => (x.f0, x.f1, x.f2))
theorem k56_open {w : World} {x : S56} {cs : List Value} (h : k56.K w x cs) : ∃ A4 c4, cs = [.string x.f0, .int .i64 x.f1.f0, .int .i64 x.f1.f1, .string x.f1.f2, .slice A4 x.f2.length c4] ∧ x.f2.length ≤ c4 ∧ k87.C w A4 x.f2.length x.f2 := by
  obtain ⟨_, _, rfl, rfl, ⟨_, _, rfl, s1, ⟨A4, c4, rfl, l4, g4⟩⟩⟩ := h
  obtain rfl := k53_open s1
  exact ⟨A4, c4, rfl, l4, g4⟩
theorem k56_openM {w : World} {base : Nat} {ok : Nat → Prop} {x : S56} {cs : List Value} (h : k56.M w base ok x cs) : ∃ v4, cs = [.string x.f0, .int .i64 x.f1.f0, .int .i64 x.f1.f1, .string x.f1.f2, v4] ∧ k87.R 87 w base ok v4 x.f2 := by
  obtain ⟨_, _, rfl, rfl, ⟨_, _, rfl, s1, ⟨v4, rfl, g4⟩⟩⟩ := h
  obtain rfl := k53_openM s1
  exact ⟨v4, rfl, g4⟩
theorem k56_mk (w : World) (x : S56) {A4 : Option Addr} {c4 : Nat} (l4 : x.f2.length ≤ c4) (g4 : k87.C w A4 x.f2.length x.f2) : k56.K w x [.string x.f0, .int .i64 x.f1.f0, .int .i64 x.f1.f1, .string x.f1.f2, .slice A4 x.f2.length c4] := ⟨[.string x.f0], [.int .i64 x.f1.f0, .int .i64 x.f1.f1, .string x.f1.f2, .slice A4 x.f2.length c4], rfl, rfl, ⟨[.int .i64 x.f1.f0, .int .i64 x.f1.f1, .string x.f1.f2], [.slice A4 x.f2.length c4], rfl, (k53_mk w x.f1 ), ⟨A4, c4, rfl, l4, g4⟩⟩⟩
theorem k56_mkM (w : World) (base : Nat) (ok : Nat → Prop) (x : S56) {v4 : Value} (g4 : k87.R 87 w base ok v4 x.f2) : k56.M w base ok x [.string x.f0, .int .i64 x.f1.f0, .int .i64 x.f1.f1, .string x.f1.f2, v4] := ⟨[.string x.f0], [.int .i64 x.f1.f0, .int .i64 x.f1.f1, .string x.f1.f2, v4], rfl, rfl, ⟨[.int .i64 x.f1.f0, .int .i64 x.f1.f1, .string x.f1.f2], [v4], rfl, (k53_mkM w base ok x.f1 ), ⟨v4, rfl, g4⟩⟩⟩
def rd_T56 (xs : List S56) (i : Int) : S56 := xs.getD i.toNat z56
theorem at_T56 {w : World} {A : Option Addr} {n : Nat} {xs : List S56} (h : Kd.C k56 w A n xs) (i : Int) (h0 : 0 ≤ i) (h1 : i < n) : ∃ ad A4 c4, A = some ad ∧ w.cell? (ad.add (i.toNat * 5)) = some (.string (rd_T56 xs i).f0) ∧ w.cell? ⟨(ad.add (i.toNat * 5)).block, (ad.add (i.toNat * 5)).off + 1, none⟩ = some (.int .i64 (rd_T56 xs i).f1.f0) ∧ w.cell? ⟨(ad.add (i.toNat * 5)).block, (ad.add (i.toNat * 5)).off + 2, none⟩ = some (.int .i64 (rd_T56 xs i).f1.f1) ∧ w.cell? ⟨(ad.add (i.toNat * 5)).block, (ad.add (i.toNat * 5)).off + 3, none⟩ = some (.string (rd_T56 xs i).f1.f2) ∧ w.cell? ⟨(ad.add (i.toNat * 5)).block, (ad.add (i.toNat * 5)).off + 4, none⟩ = some (.slice A4 (rd_T56 xs i).f2.length c4) ∧ (rd_T56 xs i).f2.length ≤ c4 ∧ k87.C w A4 (rd_T56 xs i).f2.length (rd_T56 xs i).f2 := by
  obtain ⟨ad, c, e, _, hK, hc0⟩ := Kd.C_get h z56 i h0 h1
  have hc : ∀ j u, c[j]? = some u → w.cell? (ad.add (i.toNat * 5 + j)) = some u := hc0
  obtain ⟨A4, c4, rfl, l4, g4⟩ := k56_open hK
  exact ⟨ad, A4, c4, e, hc 0 _ rfl, by rw [← add_field _ _ 1 (by omega)]; exact hc 1 _ rfl, by rw [← add_field _ _ 2 (by omega)]; exact hc 2 _ rfl, by rw [← add_field _ _ 3 (by omega)]; exact hc 3 _ rfl, by rw [← add_field _ _ 4 (by omega)]; exact hc 4 _ rfl, l4, g4⟩

end
end Go.Proofs.YtelgjeeleofgoaaGreatDoor.PF

-- Printed by a program of this session (wip/pp.sh) out of the translation. Not trusted: Lean checks it.
namespace Go.Proofs.YtelgjeeleofgoaaGreatDoor.PF
open Go.RowKit Go.Proofs.YtelgjeeleofgoaaGreatDoorW.PrintWords Go.Proofs.YtelgjeeleofgoaaGreatDoorW.PrintLast Go.Proofs.YtelgjeeleofgoaaGreatDoorW.PrintMore
attribute [local go_sem] max2_int min2_int max_two min_two max_three min_three max_four min_four   -- for this text's walks alone
set_option linter.unusedVariables false
set_option linter.unusedSimpArgs false
noncomputable section

theorem eqA29 (d : Nat) (w : World) (x0 y0 : Int) (x1 y1 : Int) (x2 y2 : Int) :
    (Op.equalIn (d + 2) 29 (.agg #[.int .i64 x0, .int .i64 x1, .int .i64 x2]) (.agg #[.int .i64 y0, .int .i64 y1, .int .i64 y2])).run Tryz.prog w = .ok (x0 == y0 && (x1 == y1 && (x2 == y2))) w := by
  refine eqA_of Tryz.underlying29 (by kernel_rfl) ?_
  refine eqf_cons (by rfl) (by go_simp; rfl) (by go_simp; rfl) (by go_simp) ?_
  refine eqf_cons (by rfl) (by go_simp; rfl) (by go_simp; rfl) (by go_simp) ?_
  exact eqf_last (by rfl) (by go_simp; rfl) (by go_simp; rfl) (by go_simp)
end
end Go.Proofs.YtelgjeeleofgoaaGreatDoor.PF

-- Printed by a program of this session (wip/pp.sh) out of the translation. Not trusted: Lean checks it.
namespace Go.Proofs.YtelgjeeleofgoaaGreatDoor.PF
open Go.RowKit Go.Proofs.YtelgjeeleofgoaaGreatDoorW.PrintWords Go.Proofs.YtelgjeeleofgoaaGreatDoorW.PrintLast Go.Proofs.YtelgjeeleofgoaaGreatDoorW.PrintMore
attribute [local go_sem] max2_int min2_int max_two min_two max_three min_three max_four min_four   -- for this text's walks alone
set_option linter.unusedVariables false
set_option linter.unusedSimpArgs false
noncomputable section

/-! ### decorumlaw08_small: function 8 -/
def decorumlaw08_small.l0 : Nat → List (S36) → Int → Int → Option (Bool)
  | 0, _, _, _ => none
  | k + 1, x0, x3, x4 => if x4 < (x0.length : Int) then (if x3 < 3000 then (if 0 ≤ x4 then (decorumlaw08_small.l0 k x0 (wrap64 (x3 + (wrap64 ((wrap64 ((((rd_T36 x0 x4).f0).size : Int) + (((rd_T36 x0 x4).f1).size : Int))) + 10)))) (wrap64 (x4 + 1))) else (none)) else (some (decide (x3 < 3000)))) else (some (decide (x3 < 3000)))
def decorumlaw08_small.f (k : Nat) (l0 : List (S36)) : Option (Bool) := decorumlaw08_small.l0 k l0 0 0
theorem decorumlaw08_small.mono_l : ∀ k, (∀ y0 y1 y2, LeO (decorumlaw08_small.l0 k y0 y1 y2) (decorumlaw08_small.l0 (k + 1) y0 y1 y2))
  | 0 => fun _ _ _ r h => by simp [decorumlaw08_small.l0] at h
  | k + 1 => by
    have ih0 := decorumlaw08_small.mono_l k
    · intro y0 y1 y2
      unfold decorumlaw08_small.l0
      repeat' first
      | (with_reducible exact ih0 _ _ _)
      | (with_reducible exact LeO.refl _)
      | (with_reducible exact LeO.none _)
      | (with_reducible refine LeO.ite ?_ ?_)
      | (with_reducible refine LeO.bind ?_ (fun _ => ?_))
      | exact ih0 _ _ _
      | exact LeO.none _
      | refine LeO.ite ?_ ?_
      | refine LeO.bind ?_ (fun _ => ?_)
theorem decorumlaw08_small.mono : ∀ a0 k, LeO (decorumlaw08_small.f k a0) (decorumlaw08_small.f (k + 1) a0) := by
  intro a0 k
  have ih0 := decorumlaw08_small.mono_l k
  unfold decorumlaw08_small.f
  repeat' first
      | (with_reducible exact ih0 _ _ _)
      | (with_reducible exact LeO.refl _)
      | (with_reducible exact LeO.none _)
      | (with_reducible refine LeO.ite ?_ ?_)
      | (with_reducible refine LeO.bind ?_ (fun _ => ?_))
      | exact ih0 _ _ _
      | exact LeO.none _
      | refine LeO.ite ?_ ?_
      | refine LeO.bind ?_ (fun _ => ?_)
set_option maxHeartbeats 8000000 in
set_option maxRecDepth 100000 in
theorem decorumlaw08_small.calls (k : Nat) (A0 : Option Addr) (c0 : Nat) (l0 : List (S36)) (r : Bool) (w : World) (hr0 : Kd.C k36 w A0 l0.length l0) (hc0 : l0.length ≤ c0) (h : decorumlaw08_small.f k l0 = some r) :
    Calls Tryz.prog 8 #[.slice A0 l0.length c0] w fun e w' => e = .returned (.bool r) ∧ Drawn0 w w' := by
  have HR0 := Aside0.mk hr0
  have HC0 := Aside0.mk hc0
  clear hr0 hc0
  have H : (decorumlaw08_small.l0 k l0 0 0) = some r := h
  clear h
  have H' := Aside0.mk H
  clear H
  go_enter Tryz.func8, Tryz.ntmps8
  go_wp2
  repeat (go_quiet (fail); try go_wp2)
  go_loopg [3, 4] k (fun kq v3 v4 w' => ∃ (x3_1 : Int) (x4_1 : Int), v3 = .int .i64 x3_1 ∧ v4 = .int .i64 x4_1 ∧ Aside0 (decorumlaw08_small.l0 kq l0 x3_1 x4_1 = some r) ∧ Aside0 (kq ≤ k) ∧ Drawn0 w w')
  case atStart => exact ⟨(0), (0), (by first | rfl | (simp; done) | (simp [*]; done)), (by first | rfl | (simp; done) | (simp [*]; done)), H', ⟨Nat.le_refl _⟩, by repeat (first | exact Drawn0.refl _ | apply Drawn0.step)⟩
  case round =>
    clear H'
    obtain ⟨x3_1, x4_1, rfl, rfl, HA, HK1, ⟨m1, rfl⟩⟩ := hrel
    cases gk with
    | zero => exact absurd HA.out (by simp [decorumlaw08_small.l0])
    | succ k1 =>
      have H := HA.out
      clear HA
      simp only [decorumlaw08_small.l0] at H
      by_cases c2 : x4_1 < (l0.length : Int)
      · rw [if_pos c2] at H
        have c2b0 : decide (x4_1 < (l0.length : Int)) = true := decide_eq_true c2
        clear c2
        by_cases c3 : x3_1 < 3000
        · rw [if_pos c3] at H
          have c3b0 : decide (x3_1 < 3000) = true := decide_eq_true c3
          clear c3
          by_cases c4 : 0 ≤ x4_1
          · rw [if_pos c4] at H
            have c4b0 : decide (0 ≤ x4_1) = true := decide_eq_true c4
            clear c4
            have H' := Aside0.mk H
            clear H
            have p101 : 0 ≤ (x4_1 : Int) := of_decide_eq_true (by first | (with_reducible assumption) | assumption)
            have q101 : x4_1 < (l0.length : Int) := of_decide_eq_true (by first | (with_reducible assumption) | assumption)
            obtain ⟨ad101, e101, hx101_0, hx101_1⟩ := at_T36 HR0.out x4_1 p101 q101
            cases e101
            replace p101 := eq_true p101
            replace q101 := eq_true q101
            have p102 : 0 ≤ (x4_1 : Int) := of_decide_eq_true (by first | (with_reducible assumption) | assumption)
            have q102 : x4_1 < (l0.length : Int) := of_decide_eq_true (by first | (with_reducible assumption) | assumption)
            obtain ⟨ad102, e102, hx102_0, hx102_1⟩ := at_T36 HR0.out x4_1 p102 q102
            obtain rfl : ad101 = ad102 := (by injection e102)
            replace p102 := eq_true p102
            replace q102 := eq_true q102
            go_wp2
            repeat (go_quiet (fail); try go_wp2)
            go_roundg k1
            case measure => have := HK1.out; omega
            case rel => exact ⟨(wrap64 (x3_1 + (wrap64 ((wrap64 ((((rd_T36 l0 x4_1).f0).size : Int) + (((rd_T36 l0 x4_1).f1).size : Int))) + 10)))), (wrap64 (x4_1 + 1)), (by first | rfl | (simp; done) | (simp [*]; done)), (by first | rfl | (simp; done) | (simp [*]; done)), H', ⟨by have := HK1.out; omega⟩, by repeat (first | exact Drawn0.refl _ | apply Drawn0.step)⟩
          · rw [if_neg c4] at H
            exact absurd H (by simp)
        · rw [if_neg c3] at H
          have c3b0 : decide (x3_1 < 3000) = false := decide_eq_false c3
          clear c3
          obtain rfl := Option.some.inj H
          go_wp2
          repeat (go_quiet (fail); try go_wp2)
          go_ret
          exact ⟨by first | rfl | (simp; done) | (simp [*]; done), by repeat (first | exact Drawn0.refl _ | apply Drawn0.step)⟩
      · rw [if_neg c2] at H
        have c2b0 : decide (x4_1 < (l0.length : Int)) = false := decide_eq_false c2
        clear c2
        obtain rfl := Option.some.inj H
        go_wp2
        repeat (go_quiet (fail); try go_wp2)
        go_ret
        exact ⟨by first | rfl | (simp; done) | (simp [*]; done), by repeat (first | exact Drawn0.refl _ | apply Drawn0.step)⟩

/-! ### feed_clock: function 16 -/
def feed_clock.f (a0 : Int) : Option (Int) := some (mx 0 (mn a0 1099511627776))
set_option maxHeartbeats 8000000 in
set_option maxRecDepth 100000 in
theorem feed_clock.calls (a0 : Int) (r : Int) (w : World) (h : feed_clock.f a0 = some r) :
    Calls Tryz.prog 16 #[.int .i64 a0] w fun e w' => e = .returned (.int .i64 r) ∧ Below w.heap.size w w' := by
  have HB := Aside0.mk (Below.refl w.heap.size w)
  have H : (some (mx 0 (mn a0 1099511627776))) = some r := h
  clear h
  obtain ⟨ji2, hji2⟩ : ∃ j_ : Int, (mn a0 1099511627776) = j_ := ⟨_, rfl⟩
  replace H : (some (mx 0 (ji2))) = some r := by first | (rw [hji2] at H; exact H) | (simp only [hji2] at H ⊢; exact H)
  (try (have hji2h : ji2 ≤ 1099511627776 := by (rw [← hji2]; unfold mn; (repeat' split) <;> omega)))
  (try (have hji2g : ji2 ≤ 64 := by omega))
  have hji2_ : (if 1099511627776 < a0 then 1099511627776 else a0) = ji2 := hji2
  obtain ⟨ji3, hji3⟩ : ∃ j_ : Int, (mx 0 (ji2)) = j_ := ⟨_, rfl⟩
  replace H : (some ji3) = some r := by first | (rw [hji3] at H; exact H) | (simp only [hji3] at H ⊢; exact H)
  have hji3_ : (if 0 < (ji2) then (ji2) else 0) = ji3 := hji3
  obtain rfl := Option.some.inj H
  go_enter Tryz.func16, Tryz.ntmps16
  go_wp2
  go_ret
  exact ⟨by first | rfl | (simp [errW_none, errW_some] <;> rfl) | (simp only [← hji2, ← hji3]; first | rfl | (simp [errW_none, errW_some] <;> rfl)) | (simp [*, errW_none, errW_some] <;> rfl), by repeat (first | (with_reducible first | exact HB.out | apply below_alloc | apply pw_below_drewN | apply below_drew1) | exact HB.out)⟩

end
end Go.Proofs.YtelgjeeleofgoaaGreatDoor.PF

/-
  DERIVED: THE SHELF's CONTRACTS AT THIS DUMP, IN PLAIN WORDS (tools/lay-plain.mjs out of 'TryzShelf.lean', which tools/lay-shelf.mjs wrote): THE SAME DECLARATIONS UNDER THE SAME NAMES: 'import', 'namespace', 'open', 'def', 'theorem' AND NOTHING ELSE: no command of the shelf's: FOR A HAND-IN. Each laying: the table of numbers ('.._ren') and one theorem, a field a fact of the dump's own or the kernel's comparison; each contract: ONE APPLICATION.
-/
namespace Go.Proofs
open Go.Shelf
def Tryz.lays160x_ren : Go.Shelf.Ren := ⟨fun | 160 => 27 | 232 => 46 | 231 => 45 | 227 => 47 | 234 => 49 | 233 => 48 | 236 => 51 | 235 => 50 | 228 => 77 | 271 => 80 | 151 => 79 | 197 => 78 | 120 => 109 | 152 => 108 | 260 => 107 | 137 => 132 | 119 => 133 | 224 => 134 | 225 => 135 | 217 => 150 | 266 => 158 | n => n, fun | 9 => 9 | 4 => 4 | 3 => 3 | 5 => 5 | 117 => 63 | 116 => 62 | 0 => 0 | 124 => 66 | 21 => 21 | 105 => 98 | 46 => 106 | 119 => 136 | 139 => 139 | 138 => 138 | n => n, fun | 3 => 0 | 4 => 1 | n => n⟩
theorem Tryz.lays160x : Go.Proofs.Lays.n160 Tryz.prog Tryz.lays160x_ren := {
  mixed := by kernel_rfl
  f119 := Tryz.func133.trans (congrArg some (by kernel_rfl))
  f120 := Tryz.func109.trans (congrArg some (by kernel_rfl))
  f137 := Tryz.func132.trans (congrArg some (by kernel_rfl))
  f151 := Tryz.func79.trans (congrArg some (by kernel_rfl))
  f152 := Tryz.func108.trans (congrArg some (by kernel_rfl))
  f160 := Tryz.func27.trans (congrArg some (by kernel_rfl))
  f197 := Tryz.func78.trans (congrArg some (by kernel_rfl))
  f217 := Tryz.func150.trans (congrArg some (by kernel_rfl))
  f224 := Tryz.func134.trans (congrArg some (by kernel_rfl))
  f225 := Tryz.func135.trans (congrArg some (by kernel_rfl))
  f227 := Tryz.func47.trans (congrArg some (by kernel_rfl))
  f228 := Tryz.func77.trans (congrArg some (by kernel_rfl))
  f231 := Tryz.func45.trans (congrArg some (by kernel_rfl))
  f232 := Tryz.func46.trans (congrArg some (by kernel_rfl))
  f233 := Tryz.func48.trans (congrArg some (by kernel_rfl))
  f234 := Tryz.func49.trans (congrArg some (by kernel_rfl))
  f235 := Tryz.func50.trans (congrArg some (by kernel_rfl))
  f236 := Tryz.func51.trans (congrArg some (by kernel_rfl))
  f260 := Tryz.func107.trans (congrArg some (by kernel_rfl))
  f266 := Tryz.func158.trans (congrArg some (by kernel_rfl))
  f271 := Tryz.func80.trans (congrArg some (by kernel_rfl))
  t0 := Tryz.underlying0
  a0 := Tryz.isAgg0
  z0 := Tryz.sizeOf0
  v0 := Tryz.zeroValue0
  t3 := Tryz.underlying3
  a3 := Tryz.isAgg3
  z3 := Tryz.sizeOf3
  v3 := Tryz.zeroValue3
  t4 := Tryz.underlying4
  a4 := Tryz.isAgg4
  z4 := Tryz.sizeOf4
  v4 := Tryz.zeroValue4
  t5 := Tryz.underlying5
  a5 := Tryz.isAgg5
  z5 := Tryz.sizeOf5
  v5 := Tryz.zeroValue5
  t9 := Tryz.underlying9
  a9 := Tryz.isAgg9
  z9 := Tryz.sizeOf9
  v9 := Tryz.zeroValue9
  t21 := Tryz.underlying21
  a21 := Tryz.isAgg21
  z21 := Tryz.sizeOf21
  v21 := Tryz.zeroValue21
  t46 := Tryz.underlying106
  a46 := Tryz.isAgg106
  z46 := Tryz.sizeOf106
  v46 := Tryz.zeroValue106
  t105 := Tryz.underlying98
  a105 := Tryz.isAgg98
  z105 := Tryz.sizeOf98
  v105 := Tryz.zeroValue98
  t116 := Tryz.underlying62
  a116 := Tryz.isAgg62
  z116 := Tryz.sizeOf62
  t117 := Tryz.underlying63
  a117 := Tryz.isAgg63
  z117 := Tryz.sizeOf63
  v117 := Tryz.zeroValue63
  t119 := Tryz.underlying136
  a119 := Tryz.isAgg136
  z119 := Tryz.sizeOf136
  t124 := Tryz.underlying66
  a124 := Tryz.isAgg66
  z124 := Tryz.sizeOf66
  v124 := Tryz.zeroValue66
  t138 := Tryz.underlying138
  a138 := Tryz.isAgg138
  z138 := Tryz.sizeOf138
  v138 := Tryz.zeroValue138
  t139 := Tryz.underlying139
  a139 := Tryz.isAgg139
  z139 := Tryz.sizeOf139
  v139 := Tryz.zeroValue139
  g3 := by kernel_rfl
  g4 := by kernel_rfl }
def Tryz.lays161x_ren : Go.Shelf.Ren := ⟨fun | 161 => 96 | 231 => 45 | 227 => 47 | 233 => 48 | 235 => 50 | 228 => 77 | 197 => 78 | 151 => 79 | 260 => 107 | 152 => 108 | 137 => 132 | 119 => 133 | 224 => 134 | 225 => 135 | 217 => 150 | 266 => 158 | n => n, fun | 9 => 9 | 4 => 4 | 3 => 3 | 5 => 5 | 117 => 63 | 116 => 62 | 0 => 0 | 124 => 66 | 105 => 98 | 21 => 21 | 119 => 136 | 46 => 106 | 139 => 139 | 138 => 138 | n => n, fun | 3 => 0 | 4 => 1 | n => n⟩
theorem Tryz.lays161x : Go.Proofs.Lays.n161 Tryz.prog Tryz.lays161x_ren := {
  mixed := by kernel_rfl
  f119 := Tryz.func133.trans (congrArg some (by kernel_rfl))
  f137 := Tryz.func132.trans (congrArg some (by kernel_rfl))
  f151 := Tryz.func79.trans (congrArg some (by kernel_rfl))
  f152 := Tryz.func108.trans (congrArg some (by kernel_rfl))
  f161 := Tryz.func96.trans (congrArg some (by kernel_rfl))
  f197 := Tryz.func78.trans (congrArg some (by kernel_rfl))
  f217 := Tryz.func150.trans (congrArg some (by kernel_rfl))
  f224 := Tryz.func134.trans (congrArg some (by kernel_rfl))
  f225 := Tryz.func135.trans (congrArg some (by kernel_rfl))
  f227 := Tryz.func47.trans (congrArg some (by kernel_rfl))
  f228 := Tryz.func77.trans (congrArg some (by kernel_rfl))
  f231 := Tryz.func45.trans (congrArg some (by kernel_rfl))
  f233 := Tryz.func48.trans (congrArg some (by kernel_rfl))
  f235 := Tryz.func50.trans (congrArg some (by kernel_rfl))
  f260 := Tryz.func107.trans (congrArg some (by kernel_rfl))
  f266 := Tryz.func158.trans (congrArg some (by kernel_rfl))
  t0 := Tryz.underlying0
  a0 := Tryz.isAgg0
  z0 := Tryz.sizeOf0
  v0 := Tryz.zeroValue0
  t3 := Tryz.underlying3
  a3 := Tryz.isAgg3
  z3 := Tryz.sizeOf3
  v3 := Tryz.zeroValue3
  t4 := Tryz.underlying4
  a4 := Tryz.isAgg4
  z4 := Tryz.sizeOf4
  v4 := Tryz.zeroValue4
  t5 := Tryz.underlying5
  a5 := Tryz.isAgg5
  z5 := Tryz.sizeOf5
  v5 := Tryz.zeroValue5
  t9 := Tryz.underlying9
  a9 := Tryz.isAgg9
  z9 := Tryz.sizeOf9
  v9 := Tryz.zeroValue9
  t21 := Tryz.underlying21
  a21 := Tryz.isAgg21
  z21 := Tryz.sizeOf21
  v21 := Tryz.zeroValue21
  t46 := Tryz.underlying106
  a46 := Tryz.isAgg106
  z46 := Tryz.sizeOf106
  v46 := Tryz.zeroValue106
  t105 := Tryz.underlying98
  a105 := Tryz.isAgg98
  z105 := Tryz.sizeOf98
  v105 := Tryz.zeroValue98
  t116 := Tryz.underlying62
  a116 := Tryz.isAgg62
  z116 := Tryz.sizeOf62
  t117 := Tryz.underlying63
  a117 := Tryz.isAgg63
  z117 := Tryz.sizeOf63
  v117 := Tryz.zeroValue63
  t119 := Tryz.underlying136
  a119 := Tryz.isAgg136
  z119 := Tryz.sizeOf136
  t124 := Tryz.underlying66
  a124 := Tryz.isAgg66
  z124 := Tryz.sizeOf66
  v124 := Tryz.zeroValue66
  t138 := Tryz.underlying138
  a138 := Tryz.isAgg138
  z138 := Tryz.sizeOf138
  v138 := Tryz.zeroValue138
  t139 := Tryz.underlying139
  a139 := Tryz.isAgg139
  z139 := Tryz.sizeOf139
  v139 := Tryz.zeroValue139
  g3 := by kernel_rfl
  g4 := by kernel_rfl }
def Tryz.lays137_ren : Go.Shelf.Ren := ⟨fun | 137 => 132 | 217 => 150 | 266 => 158 | n => n, fun | 9 => 9 | 5 => 5 | 3 => 3 | n => n, fun | n => n⟩
theorem Tryz.lays137 : Go.Proofs.Lays.n137 Tryz.prog Tryz.lays137_ren := {
  mixed := by kernel_rfl
  f137 := Tryz.func132.trans (congrArg some (by kernel_rfl))
  f217 := Tryz.func150.trans (congrArg some (by kernel_rfl))
  f266 := Tryz.func158.trans (congrArg some (by kernel_rfl))
  t3 := Tryz.underlying3
  a3 := Tryz.isAgg3
  z3 := Tryz.sizeOf3
  v3 := Tryz.zeroValue3
  t5 := Tryz.underlying5
  a5 := Tryz.isAgg5
  z5 := Tryz.sizeOf5
  v5 := Tryz.zeroValue5
  t9 := Tryz.underlying9
  a9 := Tryz.isAgg9
  z9 := Tryz.sizeOf9
  v9 := Tryz.zeroValue9 }
open Go.RowKit in
/-- strings.IndexByte: "IndexByte returns the index of the first instance of c in s, or -1 if c is not present in s.": IT RETURNS 'Lib.indexByte s c'; the world is as it was. (LAID: no walk: one application.) -/
theorem Tryz.strings_IndexByte (s : ByteArray) (c : Int) (w : World) :
    Calls Tryz.prog 132 #[.string s, .int .u8 c] w fun e w' => e = .returned (.int .i64 (Lib.indexByte s.data.toList c.toNat.toUInt8)) ∧ w' = w := Any.strings_IndexByte Tryz.lays137 s c w
def Tryz.laysC172_ren : Go.Shelf.Ren := ⟨fun | 172 => 52 | 244 => 81 | 245 => 82 | 247 => 110 | 279 => 111 | 280 => 112 | 281 => 113 | 282 => 114 | 287 => 136 | 316 => 137 | 171 => 139 | 205 => 138 | 321 => 151 | 322 => 152 | 243 => 153 | 246 => 159 | 283 => 163 | 284 => 164 | 285 => 165 | 286 => 166 | 129 => 169 | 317 => 168 | 318 => 170 | 319 => 171 | 320 => 172 | 337 => 173 | 338 => 174 | n => n, fun | 9 => 9 | 3 => 3 | 75 => 68 | 76 => 69 | 4 => 4 | 5 => 5 | 167 => 120 | 37 => 33 | 0 => 0 | 85 => 121 | 2 => 2 | 168 => 123 | 53 => 77 | 175 => 142 | 46 => 106 | 210 => 145 | 127 => 154 | 145 => 157 | 143 => 155 | 21 => 21 | 171 => 175 | 173 => 178 | 212 => 185 | 51 => 32 | 20 => 20 | 213 => 186 | 232 => 189 | 233 => 190 | 80 => 97 | n => n, fun | 15 => 2 | 16 => 3 | 17 => 7 | 18 => 8 | 19 => 9 | n => n⟩
theorem Tryz.laysC172 : Go.Proofs.LaysC.n172 Tryz.prog Tryz.laysC172_ren := {
  mixed := by kernel_rfl
  f129 := Tryz.func169.trans (congrArg some (by kernel_rfl))
  f171 := Tryz.func139.trans (congrArg some (by kernel_rfl))
  f172 := Tryz.func52.trans (congrArg some (by kernel_rfl))
  f205 := Tryz.func138.trans (congrArg some (by kernel_rfl))
  f243 := Tryz.func153.trans (congrArg some (by kernel_rfl))
  f244 := Tryz.func81.trans (congrArg some (by kernel_rfl))
  f245 := Tryz.func82.trans (congrArg some (by kernel_rfl))
  f246 := Tryz.func159.trans (congrArg some (by kernel_rfl))
  f247 := Tryz.func110.trans (congrArg some (by kernel_rfl))
  f279 := Tryz.func111.trans (congrArg some (by kernel_rfl))
  f280 := Tryz.func112.trans (congrArg some (by kernel_rfl))
  f281 := Tryz.func113.trans (congrArg some (by kernel_rfl))
  f282 := Tryz.func114.trans (congrArg some (by kernel_rfl))
  f283 := Tryz.func163.trans (congrArg some (by kernel_rfl))
  f284 := Tryz.func164.trans (congrArg some (by kernel_rfl))
  f285 := Tryz.func165.trans (congrArg some (by kernel_rfl))
  f286 := Tryz.func166.trans (congrArg some (by kernel_rfl))
  f287 := Tryz.func136.trans (congrArg some (by kernel_rfl))
  f316 := Tryz.func137.trans (congrArg some (by kernel_rfl))
  f317 := Tryz.func168.trans (congrArg some (by kernel_rfl))
  f318 := Tryz.func170.trans (congrArg some (by kernel_rfl))
  f319 := Tryz.func171.trans (congrArg some (by kernel_rfl))
  f320 := Tryz.func172.trans (congrArg some (by kernel_rfl))
  f321 := Tryz.func151.trans (congrArg some (by kernel_rfl))
  f322 := Tryz.func152.trans (congrArg some (by kernel_rfl))
  f337 := Tryz.func173.trans (congrArg some (by kernel_rfl))
  f338 := Tryz.func174.trans (congrArg some (by kernel_rfl))
  t0 := Tryz.underlying0
  a0 := Tryz.isAgg0
  z0 := Tryz.sizeOf0
  v0 := Tryz.zeroValue0
  t2 := Tryz.underlying2
  a2 := Tryz.isAgg2
  z2 := Tryz.sizeOf2
  v2 := Tryz.zeroValue2
  t3 := Tryz.underlying3
  a3 := Tryz.isAgg3
  z3 := Tryz.sizeOf3
  v3 := Tryz.zeroValue3
  t4 := Tryz.underlying4
  a4 := Tryz.isAgg4
  z4 := Tryz.sizeOf4
  v4 := Tryz.zeroValue4
  t5 := Tryz.underlying5
  a5 := Tryz.isAgg5
  z5 := Tryz.sizeOf5
  v5 := Tryz.zeroValue5
  t9 := Tryz.underlying9
  a9 := Tryz.isAgg9
  z9 := Tryz.sizeOf9
  v9 := Tryz.zeroValue9
  t20 := Tryz.underlying20
  a20 := Tryz.isAgg20
  z20 := Tryz.sizeOf20
  v20 := Tryz.zeroValue20
  t21 := Tryz.underlying21
  a21 := Tryz.isAgg21
  z21 := Tryz.sizeOf21
  v21 := Tryz.zeroValue21
  t37 := Tryz.underlying33
  a37 := Tryz.isAgg33
  z37 := Tryz.sizeOf33
  v37 := Tryz.zeroValue33
  t46 := Tryz.underlying106
  a46 := Tryz.isAgg106
  z46 := Tryz.sizeOf106
  v46 := Tryz.zeroValue106
  t51 := Tryz.underlying32
  a51 := Tryz.isAgg32
  z51 := Tryz.sizeOf32
  v51 := Tryz.zeroValue32
  t53 := Tryz.underlying77
  a53 := Tryz.isAgg77
  z53 := Tryz.sizeOf77
  v53 := Tryz.zeroValue77
  t75 := Tryz.underlying68
  a75 := Tryz.isAgg68
  z75 := Tryz.sizeOf68
  v75 := Tryz.zeroValue68
  t76 := Tryz.underlying69
  a76 := Tryz.isAgg69
  z76 := Tryz.sizeOf69
  v76 := Tryz.zeroValue69
  t85 := Tryz.underlying121
  a85 := Tryz.isAgg121
  z85 := Tryz.sizeOf121
  v85 := Tryz.zeroValue121
  t127 := Tryz.underlying154
  a127 := Tryz.isAgg154
  z127 := Tryz.sizeOf154
  v127 := Tryz.zeroValue154
  t143 := Tryz.underlying155
  a143 := Tryz.isAgg155
  z143 := Tryz.sizeOf155
  v143 := Tryz.zeroValue155
  t145 := Tryz.underlying157
  a145 := Tryz.isAgg157
  z145 := Tryz.sizeOf157
  v145 := Tryz.zeroValue157
  t167 := Tryz.underlying120
  a167 := Tryz.isAgg120
  z167 := Tryz.sizeOf120
  v167 := Tryz.zeroValue120
  t168 := Tryz.underlying123
  a168 := Tryz.isAgg123
  z168 := Tryz.sizeOf123
  v168 := Tryz.zeroValue123
  t171 := Tryz.underlying175
  a171 := Tryz.isAgg175
  z171 := Tryz.sizeOf175
  v171 := Tryz.zeroValue175
  t173 := Tryz.underlying178
  a173 := Tryz.isAgg178
  z173 := Tryz.sizeOf178
  v173 := Tryz.zeroValue178
  t175 := Tryz.underlying142
  a175 := Tryz.isAgg142
  z175 := Tryz.sizeOf142
  v175 := Tryz.zeroValue142
  t210 := Tryz.underlying145
  a210 := Tryz.isAgg145
  z210 := Tryz.sizeOf145
  v210 := Tryz.zeroValue145
  t212 := Tryz.underlying185
  a212 := Tryz.isAgg185
  z212 := Tryz.sizeOf185
  v212 := Tryz.zeroValue185
  t213 := Tryz.underlying186
  a213 := Tryz.isAgg186
  z213 := Tryz.sizeOf186
  t232 := Tryz.underlying189
  a232 := Tryz.isAgg189
  z232 := Tryz.sizeOf189
  v232 := Tryz.zeroValue189
  t233 := Tryz.underlying190
  a233 := Tryz.isAgg190
  z233 := Tryz.sizeOf190
  v233 := Tryz.zeroValue190
  g15 := by kernel_rfl
  g16 := by kernel_rfl
  g17 := by kernel_rfl
  g18 := by kernel_rfl
  g19 := by kernel_rfl
  t80 := Tryz.underlying97
  a80 := Tryz.isAgg97
  z80 := Tryz.sizeOf97
  v80 := Tryz.zeroValue97
  i0 := by kernel_rfl
  i2 := by kernel_rfl
  i3 := by kernel_rfl
  i4 := by kernel_rfl
  i5 := by kernel_rfl
  i9 := by kernel_rfl
  i20 := by kernel_rfl
  i21 := by kernel_rfl
  i37 := by kernel_rfl
  i46 := by kernel_rfl
  i51 := by kernel_rfl
  i53 := by kernel_rfl
  i75 := by kernel_rfl
  i76 := by kernel_rfl
  i80 := by kernel_rfl
  i85 := by kernel_rfl
  i127 := by kernel_rfl
  i143 := by kernel_rfl
  i145 := by kernel_rfl
  i167 := by kernel_rfl
  i168 := by kernel_rfl
  i171 := by kernel_rfl
  i173 := by kernel_rfl
  i175 := by kernel_rfl
  i210 := by kernel_rfl
  i212 := by kernel_rfl
  i232 := by kernel_rfl
  i233 := by kernel_rfl
  m15 := by kernel_rfl
  m16 := by kernel_rfl
  m17 := by kernel_rfl
  m18 := by kernel_rfl
  m19 := by kernel_rfl
  c0 := by kernel_rfl
  c2 := by kernel_rfl
  c3 := by kernel_rfl
  c4 := by kernel_rfl
  c5 := by kernel_rfl
  c9 := by kernel_rfl
  c20 := by kernel_rfl
  c21 := by kernel_rfl
  c37 := by kernel_rfl
  c46 := by kernel_rfl
  c51 := by kernel_rfl
  c53 := by kernel_rfl
  c75 := by kernel_rfl
  c76 := by kernel_rfl
  c80 := by kernel_rfl
  c85 := by kernel_rfl
  c127 := by kernel_rfl
  c143 := by kernel_rfl
  c145 := by kernel_rfl
  c167 := by kernel_rfl
  c168 := by kernel_rfl
  c171 := by kernel_rfl
  c173 := by kernel_rfl
  c175 := by kernel_rfl
  c210 := by kernel_rfl
  c212 := by kernel_rfl
  c213 := by kernel_rfl
  c232 := by kernel_rfl
  c233 := by kernel_rfl }
open Go.RowKit in
/-- strconv.Atoi, AT EVERY STRING THAT SPELLS AN int ('Lib.atoiAll .. = .ok v'; of whatever length: leading zeros count): v, AND NO ERROR. The world: as it was, or with the one new row that '[]byte(..)' lays. (LAID: no walk: one application.) -/
theorem Tryz.strconv_Atoi_ok (s : ByteArray) (hmax : s.size ≤ 9223372036854775806) (v : Int) (h : Lib.atoiAll s.data.toList = .ok v) (w : World) :
    Calls Tryz.prog 52 #[.string s] w fun e w' => e = .returned (.tuple #[.int .i64 v, .nilIface]) ∧ (w' = w ∨ ∃ t, w' = Lib.bytesWorld w 5 t) := Any.strconv_Atoi_ok Tryz.laysC172 s hmax v h w
open Go.RowKit in
/-- strconv.Atoi, AT EVERY STRING THAT IS NO DECIMAL NUMERAL ('.syntax'): 0, AND AN ERROR THAT IS NOT nil: a *NumError in a new block N: {Func: "Atoi", Num: s's bytes, Err: what the variable ErrSyntax holds}. Of what was there nothing has turned. (LAID: no walk: one application.) -/
theorem Tryz.strconv_Atoi_syntax (s : ByteArray) (hlim : s.size ≤ 281474976710656) (h : Lib.atoiAll s.data.toList = Lib.atoiAll []) (ev : Value) (w : World) (hv : w.cell? ⟨2, 0, none⟩ = some ev) (hev : ev = .nilIface ∨ ∃ te pe, ev = .iface te pe) :
    Calls Tryz.prog 52 #[.string s] w fun e w' => ∃ N, e = .returned (.tuple #[.int .i64 (0), .iface 123 (.pointer (some ⟨N, 0, none⟩))]) ∧ w.heap.size ≤ N ∧ w'.heap[N]? = some (.cells #[.string ⟨#[65, 116, 111, 105]⟩, .string s, ev] 145 (0, 0)) ∧ Below w.heap.size w w' := Any.strconv_Atoi_syntax Tryz.laysC172 s hlim h ev w hv hev
open Go.RowKit in
/-- strconv.Atoi, AT EVERY NUMERAL THAT NO int HOLDS ('.range'): THE GREATEST OR THE LEAST int, BY THE SIGN ('Lib.atoiSat'), AND AN ERROR THAT IS NOT nil: a *NumError in a new block N: {Func: "Atoi", Num: s's bytes, Err: what the variable ErrRange holds}. Of what was there nothing has turned. (LAID: no walk: one application.) -/
theorem Tryz.strconv_Atoi_range (s : ByteArray) (hlim : s.size ≤ 281474976710656) (h : Lib.atoiAll s.data.toList = .range) (ev : Value) (w : World) (hv : w.cell? ⟨3, 0, none⟩ = some ev) (hev : ev = .nilIface ∨ ∃ te pe, ev = .iface te pe) :
    Calls Tryz.prog 52 #[.string s] w fun e w' => ∃ N, e = .returned (.tuple #[.int .i64 (Lib.atoiSat s.data.toList), .iface 123 (.pointer (some ⟨N, 0, none⟩))]) ∧ w.heap.size ≤ N ∧ w'.heap[N]? = some (.cells #[.string ⟨#[65, 116, 111, 105]⟩, .string s, ev] 145 (0, 0)) ∧ Below w.heap.size w w' := Any.strconv_Atoi_range Tryz.laysC172 s hlim h ev w hv hev
def Tryz.lays100_ren : Go.Shelf.Ren := ⟨fun | 100 => 84 | 207 => 116 | n => n, fun | 9 => 9 | 4 => 4 | 3 => 3 | n => n, fun | n => n⟩
theorem Tryz.lays100 : Go.Proofs.Lays.n100 Tryz.prog Tryz.lays100_ren := {
  mixed := by kernel_rfl
  f100 := Tryz.func84.trans (congrArg some (by kernel_rfl))
  f207 := Tryz.func116.trans (congrArg some (by kernel_rfl))
  t3 := Tryz.underlying3
  a3 := Tryz.isAgg3
  z3 := Tryz.sizeOf3
  v3 := Tryz.zeroValue3
  t4 := Tryz.underlying4
  a4 := Tryz.isAgg4
  z4 := Tryz.sizeOf4
  v4 := Tryz.zeroValue4
  t9 := Tryz.underlying9
  a9 := Tryz.isAgg9
  z9 := Tryz.sizeOf9
  v9 := Tryz.zeroValue9 }
open Go.RowKit Go.Lib in
/-- strings.HasSuffix: "HasSuffix reports whether the string s ends with suffix.": IT RETURNS 'Lib.hasSuffix s suffix'; the world is as it was. ('hs': no Go string is longer: a caller has it of every string that it was handed.) (LAID: no walk: one application.) -/
theorem Tryz.strings_HasSuffix (s p : ByteArray) (w : World) (hs : s.size ≤ 9223372036854775807) :
    Calls Tryz.prog 84 #[.string s, .string p] w fun e w' => e = .returned (.bool (Lib.hasSuffix s.data.toList p.data.toList)) ∧ w' = w := Any.strings_HasSuffix Tryz.lays100 s p w hs
def Tryz.lays102_ren : Go.Shelf.Ren := ⟨fun | 102 => 86 | 209 => 119 | 207 => 116 | n => n, fun | 9 => 9 | 4 => 4 | 3 => 3 | n => n, fun | n => n⟩
theorem Tryz.lays102 : Go.Proofs.Lays.n102 Tryz.prog Tryz.lays102_ren := {
  mixed := by kernel_rfl
  f102 := Tryz.func86.trans (congrArg some (by kernel_rfl))
  f207 := Tryz.func116.trans (congrArg some (by kernel_rfl))
  f209 := Tryz.func119.trans (congrArg some (by kernel_rfl))
  t3 := Tryz.underlying3
  a3 := Tryz.isAgg3
  z3 := Tryz.sizeOf3
  v3 := Tryz.zeroValue3
  t4 := Tryz.underlying4
  a4 := Tryz.isAgg4
  z4 := Tryz.sizeOf4
  v4 := Tryz.zeroValue4
  t9 := Tryz.underlying9
  a9 := Tryz.isAgg9
  z9 := Tryz.sizeOf9
  v9 := Tryz.zeroValue9 }
open Go.RowKit Go.Lib in
/-- strings.TrimSuffix: "TrimSuffix returns s without the provided trailing suffix string. If s doesn't end with suffix, s is returned unchanged.": IT RETURNS 'Lib.trimSuffix s suffix'; the world is as it was. (LAID: no walk: one application.) -/
theorem Tryz.strings_TrimSuffix (s p : ByteArray) (w : World) (hs : s.size ≤ 9223372036854775807) :
    Calls Tryz.prog 86 #[.string s, .string p] w fun e w' => e = .returned (.string ⟨(Lib.trimSuffix s.data.toList p.data.toList).toArray⟩) ∧ w' = w := Any.strings_TrimSuffix Tryz.lays102 s p w hs
def Tryz.lays146_ren : Go.Shelf.Ren := ⟨fun | 146 => 83 | 221 => 115 | 268 => 140 | 138 => 141 | 143 => 142 | 195 => 154 | 197 => 78 | 218 => 155 | 219 => 156 | 260 => 107 | 217 => 150 | 225 => 135 | 224 => 134 | 267 => 160 | 266 => 158 | 314 => 167 | n => n, fun | 9 => 9 | 31 => 102 | 3 => 3 | 4 => 4 | 0 => 0 | 105 => 98 | 21 => 21 | 5 => 5 | 46 => 106 | 119 => 136 | 139 => 139 | 138 => 138 | 146 => 180 | 51 => 32 | n => n, fun | 1 => 5 | 3 => 0 | 4 => 1 | n => n⟩
theorem Tryz.lays146 : Go.Proofs.Lays.n146 Tryz.prog Tryz.lays146_ren := {
  mixed := by kernel_rfl
  f138 := Tryz.func141.trans (congrArg some (by kernel_rfl))
  f143 := Tryz.func142.trans (congrArg some (by kernel_rfl))
  f146 := Tryz.func83.trans (congrArg some (by kernel_rfl))
  f195 := Tryz.func154.trans (congrArg some (by kernel_rfl))
  f197 := Tryz.func78.trans (congrArg some (by kernel_rfl))
  f217 := Tryz.func150.trans (congrArg some (by kernel_rfl))
  f218 := Tryz.func155.trans (congrArg some (by kernel_rfl))
  f219 := Tryz.func156.trans (congrArg some (by kernel_rfl))
  f221 := Tryz.func115.trans (congrArg some (by kernel_rfl))
  f224 := Tryz.func134.trans (congrArg some (by kernel_rfl))
  f225 := Tryz.func135.trans (congrArg some (by kernel_rfl))
  f260 := Tryz.func107.trans (congrArg some (by kernel_rfl))
  f266 := Tryz.func158.trans (congrArg some (by kernel_rfl))
  f267 := Tryz.func160.trans (congrArg some (by kernel_rfl))
  f268 := Tryz.func140.trans (congrArg some (by kernel_rfl))
  f314 := Tryz.func167.trans (congrArg some (by kernel_rfl))
  t0 := Tryz.underlying0
  a0 := Tryz.isAgg0
  z0 := Tryz.sizeOf0
  v0 := Tryz.zeroValue0
  t3 := Tryz.underlying3
  a3 := Tryz.isAgg3
  z3 := Tryz.sizeOf3
  v3 := Tryz.zeroValue3
  t4 := Tryz.underlying4
  a4 := Tryz.isAgg4
  z4 := Tryz.sizeOf4
  v4 := Tryz.zeroValue4
  t5 := Tryz.underlying5
  a5 := Tryz.isAgg5
  z5 := Tryz.sizeOf5
  v5 := Tryz.zeroValue5
  t9 := Tryz.underlying9
  a9 := Tryz.isAgg9
  z9 := Tryz.sizeOf9
  v9 := Tryz.zeroValue9
  t21 := Tryz.underlying21
  a21 := Tryz.isAgg21
  z21 := Tryz.sizeOf21
  v21 := Tryz.zeroValue21
  t31 := Tryz.underlying102
  a31 := Tryz.isAgg102
  z31 := Tryz.sizeOf102
  v31 := Tryz.zeroValue102
  t46 := Tryz.underlying106
  a46 := Tryz.isAgg106
  z46 := Tryz.sizeOf106
  v46 := Tryz.zeroValue106
  t51 := Tryz.underlying32
  a51 := Tryz.isAgg32
  z51 := Tryz.sizeOf32
  v51 := Tryz.zeroValue32
  t105 := Tryz.underlying98
  a105 := Tryz.isAgg98
  z105 := Tryz.sizeOf98
  v105 := Tryz.zeroValue98
  t119 := Tryz.underlying136
  a119 := Tryz.isAgg136
  z119 := Tryz.sizeOf136
  t138 := Tryz.underlying138
  a138 := Tryz.isAgg138
  z138 := Tryz.sizeOf138
  v138 := Tryz.zeroValue138
  t139 := Tryz.underlying139
  a139 := Tryz.isAgg139
  z139 := Tryz.sizeOf139
  v139 := Tryz.zeroValue139
  t146 := Tryz.underlying180
  a146 := Tryz.isAgg180
  z146 := Tryz.sizeOf180
  v146 := Tryz.zeroValue180
  g1 := by kernel_rfl
  g3 := by kernel_rfl
  g4 := by kernel_rfl }
open Go.RowKit Go.Lib in
/-- strings.Split. (LAID: no walk: one application.) -/
theorem Tryz.strings_Split (s sep : ByteArray) (m : Int) (w : World) (hs : s.size < 4294967281) (hm : w.cell? ⟨5, 0, none⟩ = some (.int .i64 m)) (h1 : 1 ≤ sep.size) :
    Calls Tryz.prog 83 #[.string s, .string sep] w fun e w' =>
      e = .returned (.slice (some ⟨w.heap.size, 0, none⟩) (Lib.countB s sep + 1) (Lib.countB s sep + 1)) ∧ w' = w.alloc (.cells ((Lib.splitB sep 0 (Lib.countB s sep) s).map Value.string).toArray 9) := Any.strings_Split Tryz.lays146 (by kernel_rfl) s sep m w hs hm h1
def Tryz.lays157_ren : Go.Shelf.Ren := ⟨fun | 157 => 118 | 229 => 143 | 199 => 144 | 261 => 157 | 311 => 161 | 312 => 162 | n => n, fun | 9 => 9 | 31 => 102 | 3 => 3 | 5 => 5 | 4 => 4 | 119 => 136 | 0 => 0 | 40 => 141 | 152 => 158 | 21 => 21 | 154 => 160 | 51 => 32 | 141 => 162 | 196 => 167 | 193 => 164 | 198 => 170 | 49 => 168 | 194 => 165 | 201 => 173 | 226 => 182 | 46 => 106 | 227 => 183 | n => n, fun | 0 => 4 | 6 => 6 | n => n⟩
theorem Tryz.lays157 : Go.Proofs.Lays.n157 Tryz.prog Tryz.lays157_ren := {
  mixed := by kernel_rfl
  f157 := Tryz.func118.trans (congrArg some (by kernel_rfl))
  f199 := Tryz.func144.trans (congrArg some (by kernel_rfl))
  f229 := Tryz.func143.trans (congrArg some (by kernel_rfl))
  f261 := Tryz.func157.trans (congrArg some (by kernel_rfl))
  f311 := Tryz.func161.trans (congrArg some (by kernel_rfl))
  f312 := Tryz.func162.trans (congrArg some (by kernel_rfl))
  t0 := Tryz.underlying0
  a0 := Tryz.isAgg0
  z0 := Tryz.sizeOf0
  v0 := Tryz.zeroValue0
  t3 := Tryz.underlying3
  a3 := Tryz.isAgg3
  z3 := Tryz.sizeOf3
  v3 := Tryz.zeroValue3
  t4 := Tryz.underlying4
  a4 := Tryz.isAgg4
  z4 := Tryz.sizeOf4
  v4 := Tryz.zeroValue4
  t5 := Tryz.underlying5
  a5 := Tryz.isAgg5
  z5 := Tryz.sizeOf5
  v5 := Tryz.zeroValue5
  t9 := Tryz.underlying9
  a9 := Tryz.isAgg9
  z9 := Tryz.sizeOf9
  v9 := Tryz.zeroValue9
  t21 := Tryz.underlying21
  a21 := Tryz.isAgg21
  z21 := Tryz.sizeOf21
  v21 := Tryz.zeroValue21
  t31 := Tryz.underlying102
  a31 := Tryz.isAgg102
  z31 := Tryz.sizeOf102
  v31 := Tryz.zeroValue102
  t40 := Tryz.underlying141
  a40 := Tryz.isAgg141
  z40 := Tryz.sizeOf141
  v40 := Tryz.zeroValue141
  t46 := Tryz.underlying106
  a46 := Tryz.isAgg106
  z46 := Tryz.sizeOf106
  v46 := Tryz.zeroValue106
  t49 := Tryz.underlying168
  a49 := Tryz.isAgg168
  z49 := Tryz.sizeOf168
  v49 := Tryz.zeroValue168
  t51 := Tryz.underlying32
  a51 := Tryz.isAgg32
  z51 := Tryz.sizeOf32
  v51 := Tryz.zeroValue32
  t119 := Tryz.underlying136
  a119 := Tryz.isAgg136
  z119 := Tryz.sizeOf136
  t141 := Tryz.underlying162
  a141 := Tryz.isAgg162
  z141 := Tryz.sizeOf162
  v141 := Tryz.zeroValue162
  t152 := Tryz.underlying158
  a152 := Tryz.isAgg158
  z152 := Tryz.sizeOf158
  v152 := Tryz.zeroValue158
  t154 := Tryz.underlying160
  a154 := Tryz.isAgg160
  z154 := Tryz.sizeOf160
  v154 := Tryz.zeroValue160
  t193 := Tryz.underlying164
  a193 := Tryz.isAgg164
  z193 := Tryz.sizeOf164
  v193 := Tryz.zeroValue164
  t194 := Tryz.underlying165
  a194 := Tryz.isAgg165
  z194 := Tryz.sizeOf165
  v194 := Tryz.zeroValue165
  t196 := Tryz.underlying167
  a196 := Tryz.isAgg167
  z196 := Tryz.sizeOf167
  v196 := Tryz.zeroValue167
  t198 := Tryz.underlying170
  a198 := Tryz.isAgg170
  z198 := Tryz.sizeOf170
  v198 := Tryz.zeroValue170
  t201 := Tryz.underlying173
  a201 := Tryz.isAgg173
  z201 := Tryz.sizeOf173
  v201 := Tryz.zeroValue173
  t226 := Tryz.underlying182
  a226 := Tryz.isAgg182
  z226 := Tryz.sizeOf182
  v226 := Tryz.zeroValue182
  t227 := Tryz.underlying183
  a227 := Tryz.isAgg183
  z227 := Tryz.sizeOf183
  v227 := Tryz.zeroValue183
  g0 := by kernel_rfl
  g6 := by kernel_rfl }
open Go.RowKit Go.Lib in
/-- strings.Fields, the table by 'Lib.TabIs' (as strings.TrimSpace's contract). 'hg': the table's number, by its name: at a dump 'by kernel_rfl'. (LAID: no walk: one application.) -/
theorem Tryz.strings_Fields (s : ByteArray) (w : World) (hs : s.size < 4294967281) (hascii : ∀ (j : Nat) b, s.data.toList[j]? = some b → b.toNat < 128) (htab : Lib.TabIs Tryz.prog w "strings.asciiSpace" .u8 Lib.asciiSpaceTab) :
    Calls Tryz.prog 118 #[.string s] w fun e w' =>
      e = .returned (.slice (some ⟨w.heap.size, 0, none⟩) (Lib.fields s.data.toList).length (Lib.fields s.data.toList).length) ∧ w' = w.alloc (.cells ((Lib.fields s.data.toList).map fun l => Value.string ⟨l.toArray⟩).toArray 9) := Any.strings_Fields Tryz.lays157 (by kernel_rfl) (by kernel_rfl) s w hs hascii htab
def Tryz.lays264_ren : Go.Shelf.Ren := ⟨fun | 264 => 58 | n => n, fun | 53 => 77 | 46 => 106 | n => n, fun | n => n⟩
theorem Tryz.lays264 : Go.Proofs.Lays.n264 Tryz.prog Tryz.lays264_ren := {
  mixed := by kernel_rfl
  f264 := Tryz.func58.trans (congrArg some (by kernel_rfl))
  t46 := Tryz.underlying106
  a46 := Tryz.isAgg106
  z46 := Tryz.sizeOf106
  v46 := Tryz.zeroValue106
  t53 := Tryz.underlying77
  a53 := Tryz.isAgg77
  z53 := Tryz.sizeOf77
  v53 := Tryz.zeroValue77 }
open Go.RowKit Go.Lib in
theorem Tryz.bits_Mul64 (x y : Nat) (hx : x < 18446744073709551616) (hy : y < 18446744073709551616) (w : World) :
    Calls Tryz.prog 58 #[.int .u64 x, .int .u64 y] w fun e w' => e = .returned (.tuple #[.int .u64 ((x * y / 18446744073709551616 : Nat) : Int), .int .u64 ((x * y % 18446744073709551616 : Nat) : Int)]) ∧ w' = w := Any.bits_Mul64 Tryz.lays264 x y hx hy w
def Tryz.lays109_ren : Go.Shelf.Ren := ⟨fun | 109 => 117 | n => n, fun | 31 => 102 | 9 => 9 | 3 => 3 | 0 => 0 | 4 => 4 | n => n, fun | n => n⟩
theorem Tryz.lays109 : Go.Proofs.Lays.n109 Tryz.prog Tryz.lays109_ren := {
  mixed := by kernel_rfl
  f109 := Tryz.func117.trans (congrArg some (by kernel_rfl))
  t0 := Tryz.underlying0
  a0 := Tryz.isAgg0
  z0 := Tryz.sizeOf0
  v0 := Tryz.zeroValue0
  t3 := Tryz.underlying3
  a3 := Tryz.isAgg3
  z3 := Tryz.sizeOf3
  v3 := Tryz.zeroValue3
  t4 := Tryz.underlying4
  a4 := Tryz.isAgg4
  z4 := Tryz.sizeOf4
  v4 := Tryz.zeroValue4
  t9 := Tryz.underlying9
  a9 := Tryz.isAgg9
  z9 := Tryz.sizeOf9
  v9 := Tryz.zeroValue9
  t31 := Tryz.underlying102
  a31 := Tryz.isAgg102
  z31 := Tryz.sizeOf102
  v31 := Tryz.zeroValue102 }
open Go.Lib in
/-- slices.Index at []string: "Index returns the index of the first occurrence of v in s, or -1 if not present.": IT RETURNS 'Lib.idxOfS (the elements) v'; the world is as it was. 'zs': what the cells behind the slice's address hold (its spare capacity too, if you have it); 'zs.take n': its elements. (LAID: no walk: one application.) -/
theorem Tryz.slices_Index_string (b off n c : Nat) (zs : List ByteArray) (x : ByteArray) (w : World) (hz : n ≤ zs.length) (hbig : n ≤ 9223372036854775807) (hc : ∀ j, j < zs.length → w.cell? ⟨b, off + j, none⟩ = some (.string (zs.getD j ByteArray.empty))) :
    Calls Tryz.prog 117 #[.slice (some ⟨b, off, none⟩) n c, .string x] w fun e w' => e = .returned (.int .i64 (Lib.idxOfS (zs.take n) x)) ∧ w' = w := Any.slices_Index_string Tryz.lays109 b off n c zs x w hz hbig hc
end Go.Proofs

/- strings.Trim at a cutset of ASCII signs, in the print's form. -/
namespace Go.Proofs.YtelgjeeleofgoaaGreatDoor
open Go.RowKit
def strings_Trim.f (a b : ByteArray) : Option ByteArray :=
  if a.size ≤ 9223372036854775807 ∧ b.size < 4294967281 ∧ (b.data.toList.all fun c => decide (c.toNat < 128)) = true then some ⟨(Lib.trimS a.data.toList b.data.toList).toArray⟩ else none
theorem strings_Trim.calls (a b r : ByteArray) (w : World) (h : strings_Trim.f a b = some r) :
    Calls Tryz.prog 27 #[.string a, .string b] w fun e w' => e = .returned (.string r) ∧ Below w.heap.size w w' := by
  unfold strings_Trim.f at h
  split at h
  · rename_i hc
    obtain rfl := Option.some.inj h
    refine Go.Proofs.Any.strings_Trim_laid Tryz.lays160x (by kernel_rfl) a b w hc.1 hc.2.1 ?_
    intro j c hj
    have := List.all_eq_true.1 hc.2.2 c (List.mem_of_getElem? hj)
    simpa using this
  · cases h
end Go.Proofs.YtelgjeeleofgoaaGreatDoor

-- Printed by a program of this session (wip/pp.sh) out of the translation. Not trusted: Lean checks it.
namespace Go.Proofs.YtelgjeeleofgoaaGreatDoor.PF
open Go.RowKit Go.Proofs.YtelgjeeleofgoaaGreatDoorW.PrintWords Go.Proofs.YtelgjeeleofgoaaGreatDoorW.PrintLast Go.Proofs.YtelgjeeleofgoaaGreatDoorW.PrintMore
attribute [local go_sem] max2_int min2_int max_two min_two max_three min_three max_four min_four   -- for this text's walks alone
set_option linter.unusedVariables false
set_option linter.unusedSimpArgs false
noncomputable section

/-! ### feed_same: function 31 -/
def feed_same.l0 : Nat → ByteArray → ByteArray → Int → Int → Option (Bool)
  | 0, _, _, _, _ => none
  | k + 1, x0, x1, x14, x15 => if x15 < x14 then (if 0 ≤ x15 then (if x15 < (x0.size : Int) then (if x15 < (x1.size : Int) then (if (Go.bits .or .u8 (bt x0 x15) 32) = (Go.bits .or .u8 (bt x1 x15) 32) then (if (bt x0 x15) = (bt x1 x15) then (feed_same.l0 k x0 x1 x14 (wrap64 (x15 + 1))) else (if (Go.bits .or .u8 (bt x0 x15) 32) < 97 then (some false) else (if (Go.bits .or .u8 (bt x0 x15) 32) > 122 then (some false) else (feed_same.l0 k x0 x1 x14 (wrap64 (x15 + 1)))))) else (some false)) else (none)) else (none)) else (none)) else (some true)
def feed_same.f (k : Nat) (a0 : ByteArray) (a1 : ByteArray) : Option (Bool) := if (a0.size : Int) = (a1.size : Int) then (feed_same.l0 k a0 a1 (a0.size : Int) 0) else (some false)
theorem feed_same.mono_l : ∀ k, (∀ y0 y1 y2 y3, LeO (feed_same.l0 k y0 y1 y2 y3) (feed_same.l0 (k + 1) y0 y1 y2 y3))
  | 0 => fun _ _ _ _ r h => by simp [feed_same.l0] at h
  | k + 1 => by
    have ih0 := feed_same.mono_l k
    · intro y0 y1 y2 y3
      unfold feed_same.l0
      repeat' first
      | (with_reducible exact ih0 _ _ _ _)
      | (with_reducible exact LeO.refl _)
      | (with_reducible exact LeO.none _)
      | (with_reducible refine LeO.ite ?_ ?_)
      | (with_reducible refine LeO.bind ?_ (fun _ => ?_))
      | exact ih0 _ _ _ _
      | exact LeO.none _
      | refine LeO.ite ?_ ?_
      | refine LeO.bind ?_ (fun _ => ?_)
theorem feed_same.mono : ∀ a0 a1 k, LeO (feed_same.f k a0 a1) (feed_same.f (k + 1) a0 a1) := by
  intro a0 a1 k
  have ih0 := feed_same.mono_l k
  unfold feed_same.f
  repeat' first
      | (with_reducible exact ih0 _ _ _ _)
      | (with_reducible exact LeO.refl _)
      | (with_reducible exact LeO.none _)
      | (with_reducible refine LeO.ite ?_ ?_)
      | (with_reducible refine LeO.bind ?_ (fun _ => ?_))
      | exact ih0 _ _ _ _
      | exact LeO.none _
      | refine LeO.ite ?_ ?_
      | refine LeO.bind ?_ (fun _ => ?_)
set_option maxHeartbeats 8000000 in
set_option maxRecDepth 100000 in
theorem feed_same.calls (k : Nat) (a0 : ByteArray) (a1 : ByteArray) (r : Bool) (w : World) (h : feed_same.f k a0 a1 = some r) :
    Calls Tryz.prog 31 #[.string a0, .string a1] w fun e w' => e = .returned (.bool r) ∧ Drawn0 w w' := by
  have H : (if (a0.size : Int) = (a1.size : Int) then (feed_same.l0 k a0 a1 (a0.size : Int) 0) else (some false)) = some r := h
  clear h
  by_cases c3 : (a0.size : Int) = (a1.size : Int)
  · rw [if_pos c3] at H
    have c3b0 : ((a0.size : Int) == (a1.size : Int)) = true := beq_iff_eq.mpr c3
    have c3b1 : ((a0.size : Int) != (a1.size : Int)) = false := bne_eq_false_iff_eq.mpr c3
    have c3b2 : (a0.size == a1.size) = true := by first | simpa using c3 | (simp at c3 ⊢; omega)
    clear c3
    have H' := Aside0.mk H
    clear H
    go_enter Tryz.func31, Tryz.ntmps31
    go_wp2
    repeat (go_quiet (fail); try go_wp2)
    go_loopg [15] k (fun kq v15 w' => ∃ (x15_1 : Int), v15 = .int .i64 x15_1 ∧ Aside0 (feed_same.l0 kq a0 a1 (a0.size : Int) x15_1 = some r) ∧ Aside0 (kq ≤ k) ∧ Drawn0 w w')
    case atStart => exact ⟨(0), (by first | rfl | (simp; done) | (simp [*]; done)), H', ⟨Nat.le_refl _⟩, by repeat (first | exact Drawn0.refl _ | apply Drawn0.step)⟩
    case round =>
      clear H'
      try clear p2
      try clear c3
      try clear c3b0
      try clear c3b1
      try clear c3b2
      obtain ⟨x15_1, rfl, HA, HK1, ⟨m1, rfl⟩⟩ := hrel
      cases gk with
      | zero => exact absurd HA.out (by simp [feed_same.l0])
      | succ k1 =>
        have H := HA.out
        clear HA
        simp only [feed_same.l0] at H
        by_cases c4 : x15_1 < (a0.size : Int)
        · rw [if_pos c4] at H
          have c4b0 : decide (x15_1 < (a0.size : Int)) = true := decide_eq_true c4
          clear c4
          by_cases c5 : 0 ≤ x15_1
          · rw [if_pos c5] at H
            have c5b0 : decide (0 ≤ x15_1) = true := decide_eq_true c5
            clear c5
            by_cases c6 : x15_1 < (a0.size : Int)
            · rw [if_pos c6] at H
              have c6b0 : decide (x15_1 < (a0.size : Int)) = true := decide_eq_true c6
              clear c6
              by_cases c8 : x15_1 < (a1.size : Int)
              · rw [if_pos c8] at H
                have c8b0 : decide (x15_1 < (a1.size : Int)) = true := decide_eq_true c8
                clear c8
                by_cases c10 : (Go.bits .or .u8 (bt a0 x15_1) 32) = (Go.bits .or .u8 (bt a1 x15_1) 32)
                · rw [if_pos c10] at H
                  have c10b0 : ((Go.bits .or .u8 (bt a0 x15_1) 32) == (Go.bits .or .u8 (bt a1 x15_1) 32)) = true := beq_iff_eq.mpr c10
                  have c10b1 : ((Go.bits .or .u8 (bt a0 x15_1) 32) != (Go.bits .or .u8 (bt a1 x15_1) 32)) = false := bne_eq_false_iff_eq.mpr c10
                  clear c10
                  by_cases c13 : (bt a0 x15_1) = (bt a1 x15_1)
                  · rw [if_pos c13] at H
                    have c13b0 : ((bt a0 x15_1) == (bt a1 x15_1)) = true := beq_iff_eq.mpr c13
                    have c13b1 : ((bt a0 x15_1) != (bt a1 x15_1)) = false := bne_eq_false_iff_eq.mpr c13
                    clear c13
                    have H' := Aside0.mk H
                    clear H
                    have p7 : 0 ≤ (x15_1 : Int) := of_decide_eq_true (by first | (with_reducible assumption) | assumption)
                    have q7 : x15_1 < (a0.size : Int) := of_decide_eq_true (by first | (with_reducible assumption) | assumption)
                    have hx7 := bt_at a0 x15_1
                    replace p7 := eq_true p7
                    replace q7 := eq_true q7
                    have p9 : 0 ≤ (x15_1 : Int) := of_decide_eq_true (by first | (with_reducible assumption) | assumption)
                    have q9 : x15_1 < (a1.size : Int) := of_decide_eq_true (by first | (with_reducible assumption) | assumption)
                    have hx9 := bt_at a1 x15_1
                    replace p9 := eq_true p9
                    replace q9 := eq_true q9
                    have p11 : 0 ≤ (x15_1 : Int) := of_decide_eq_true (by first | (with_reducible assumption) | assumption)
                    have q11 : x15_1 < (a0.size : Int) := of_decide_eq_true (by first | (with_reducible assumption) | assumption)
                    have hx11 := bt_at a0 x15_1
                    replace p11 := eq_true p11
                    replace q11 := eq_true q11
                    have p12 : 0 ≤ (x15_1 : Int) := of_decide_eq_true (by first | (with_reducible assumption) | assumption)
                    have q12 : x15_1 < (a1.size : Int) := of_decide_eq_true (by first | (with_reducible assumption) | assumption)
                    have hx12 := bt_at a1 x15_1
                    replace p12 := eq_true p12
                    replace q12 := eq_true q12
                    go_wp2
                    repeat (go_quiet (fail); try go_wp2)
                    go_roundg k1
                    case measure => have := HK1.out; omega
                    case rel => exact ⟨(wrap64 (x15_1 + 1)), (by first | rfl | (simp; done) | (simp [*]; done)), H', ⟨by have := HK1.out; omega⟩, by repeat (first | exact Drawn0.refl _ | apply Drawn0.step)⟩
                  · rw [if_neg c13] at H
                    have c13b0 : ((bt a0 x15_1) == (bt a1 x15_1)) = false := beq_eq_false_iff_ne.mpr c13
                    have c13b1 : ((bt a0 x15_1) != (bt a1 x15_1)) = true := bne_iff_ne.mpr c13
                    by_cases c14 : (Go.bits .or .u8 (bt a0 x15_1) 32) < 97
                    · rw [if_pos c14] at H
                      have c14b0 : decide ((Go.bits .or .u8 (bt a0 x15_1) 32) < 97) = true := decide_eq_true c14
                      clear c14
                      obtain rfl := Option.some.inj H
                      have p7 : 0 ≤ (x15_1 : Int) := of_decide_eq_true (by first | (with_reducible assumption) | assumption)
                      have q7 : x15_1 < (a0.size : Int) := of_decide_eq_true (by first | (with_reducible assumption) | assumption)
                      have hx7 := bt_at a0 x15_1
                      replace p7 := eq_true p7
                      replace q7 := eq_true q7
                      have p9 : 0 ≤ (x15_1 : Int) := of_decide_eq_true (by first | (with_reducible assumption) | assumption)
                      have q9 : x15_1 < (a1.size : Int) := of_decide_eq_true (by first | (with_reducible assumption) | assumption)
                      have hx9 := bt_at a1 x15_1
                      replace p9 := eq_true p9
                      replace q9 := eq_true q9
                      have p11 : 0 ≤ (x15_1 : Int) := of_decide_eq_true (by first | (with_reducible assumption) | assumption)
                      have q11 : x15_1 < (a0.size : Int) := of_decide_eq_true (by first | (with_reducible assumption) | assumption)
                      have hx11 := bt_at a0 x15_1
                      replace p11 := eq_true p11
                      replace q11 := eq_true q11
                      have p12 : 0 ≤ (x15_1 : Int) := of_decide_eq_true (by first | (with_reducible assumption) | assumption)
                      have q12 : x15_1 < (a1.size : Int) := of_decide_eq_true (by first | (with_reducible assumption) | assumption)
                      have hx12 := bt_at a1 x15_1
                      replace p12 := eq_true p12
                      replace q12 := eq_true q12
                      go_wp2
                      repeat (go_quiet (fail); try go_wp2)
                      go_ret
                      exact ⟨by first | rfl | (simp; done) | (simp [*]; done), by repeat (first | exact Drawn0.refl _ | apply Drawn0.step)⟩
                    · rw [if_neg c14] at H
                      have c14b0 : decide ((Go.bits .or .u8 (bt a0 x15_1) 32) < 97) = false := decide_eq_false c14
                      clear c14
                      by_cases c15 : (Go.bits .or .u8 (bt a0 x15_1) 32) > 122
                      · rw [if_pos c15] at H
                        have c15b0 : decide (122 < (Go.bits .or .u8 (bt a0 x15_1) 32)) = true := decide_eq_true c15
                        clear c15
                        obtain rfl := Option.some.inj H
                        have p7 : 0 ≤ (x15_1 : Int) := of_decide_eq_true (by first | (with_reducible assumption) | assumption)
                        have q7 : x15_1 < (a0.size : Int) := of_decide_eq_true (by first | (with_reducible assumption) | assumption)
                        have hx7 := bt_at a0 x15_1
                        replace p7 := eq_true p7
                        replace q7 := eq_true q7
                        have p9 : 0 ≤ (x15_1 : Int) := of_decide_eq_true (by first | (with_reducible assumption) | assumption)
                        have q9 : x15_1 < (a1.size : Int) := of_decide_eq_true (by first | (with_reducible assumption) | assumption)
                        have hx9 := bt_at a1 x15_1
                        replace p9 := eq_true p9
                        replace q9 := eq_true q9
                        have p11 : 0 ≤ (x15_1 : Int) := of_decide_eq_true (by first | (with_reducible assumption) | assumption)
                        have q11 : x15_1 < (a0.size : Int) := of_decide_eq_true (by first | (with_reducible assumption) | assumption)
                        have hx11 := bt_at a0 x15_1
                        replace p11 := eq_true p11
                        replace q11 := eq_true q11
                        have p12 : 0 ≤ (x15_1 : Int) := of_decide_eq_true (by first | (with_reducible assumption) | assumption)
                        have q12 : x15_1 < (a1.size : Int) := of_decide_eq_true (by first | (with_reducible assumption) | assumption)
                        have hx12 := bt_at a1 x15_1
                        replace p12 := eq_true p12
                        replace q12 := eq_true q12
                        go_wp2
                        repeat (go_quiet (fail); try go_wp2)
                        go_ret
                        exact ⟨by first | rfl | (simp; done) | (simp [*]; done), by repeat (first | exact Drawn0.refl _ | apply Drawn0.step)⟩
                      · rw [if_neg c15] at H
                        have c15b0 : decide (122 < (Go.bits .or .u8 (bt a0 x15_1) 32)) = false := decide_eq_false c15
                        clear c15
                        have H' := Aside0.mk H
                        clear H
                        have p7 : 0 ≤ (x15_1 : Int) := of_decide_eq_true (by first | (with_reducible assumption) | assumption)
                        have q7 : x15_1 < (a0.size : Int) := of_decide_eq_true (by first | (with_reducible assumption) | assumption)
                        have hx7 := bt_at a0 x15_1
                        replace p7 := eq_true p7
                        replace q7 := eq_true q7
                        have p9 : 0 ≤ (x15_1 : Int) := of_decide_eq_true (by first | (with_reducible assumption) | assumption)
                        have q9 : x15_1 < (a1.size : Int) := of_decide_eq_true (by first | (with_reducible assumption) | assumption)
                        have hx9 := bt_at a1 x15_1
                        replace p9 := eq_true p9
                        replace q9 := eq_true q9
                        have p11 : 0 ≤ (x15_1 : Int) := of_decide_eq_true (by first | (with_reducible assumption) | assumption)
                        have q11 : x15_1 < (a0.size : Int) := of_decide_eq_true (by first | (with_reducible assumption) | assumption)
                        have hx11 := bt_at a0 x15_1
                        replace p11 := eq_true p11
                        replace q11 := eq_true q11
                        have p12 : 0 ≤ (x15_1 : Int) := of_decide_eq_true (by first | (with_reducible assumption) | assumption)
                        have q12 : x15_1 < (a1.size : Int) := of_decide_eq_true (by first | (with_reducible assumption) | assumption)
                        have hx12 := bt_at a1 x15_1
                        replace p12 := eq_true p12
                        replace q12 := eq_true q12
                        go_wp2
                        repeat (go_quiet (fail); try go_wp2)
                        go_roundg k1
                        case measure => have := HK1.out; omega
                        case rel => exact ⟨(wrap64 (x15_1 + 1)), (by first | rfl | (simp; done) | (simp [*]; done)), H', ⟨by have := HK1.out; omega⟩, by repeat (first | exact Drawn0.refl _ | apply Drawn0.step)⟩
                · rw [if_neg c10] at H
                  have c10b0 : ((Go.bits .or .u8 (bt a0 x15_1) 32) == (Go.bits .or .u8 (bt a1 x15_1) 32)) = false := beq_eq_false_iff_ne.mpr c10
                  have c10b1 : ((Go.bits .or .u8 (bt a0 x15_1) 32) != (Go.bits .or .u8 (bt a1 x15_1) 32)) = true := bne_iff_ne.mpr c10
                  obtain rfl := Option.some.inj H
                  have p7 : 0 ≤ (x15_1 : Int) := of_decide_eq_true (by first | (with_reducible assumption) | assumption)
                  have q7 : x15_1 < (a0.size : Int) := of_decide_eq_true (by first | (with_reducible assumption) | assumption)
                  have hx7 := bt_at a0 x15_1
                  replace p7 := eq_true p7
                  replace q7 := eq_true q7
                  have p9 : 0 ≤ (x15_1 : Int) := of_decide_eq_true (by first | (with_reducible assumption) | assumption)
                  have q9 : x15_1 < (a1.size : Int) := of_decide_eq_true (by first | (with_reducible assumption) | assumption)
                  have hx9 := bt_at a1 x15_1
                  replace p9 := eq_true p9
                  replace q9 := eq_true q9
                  go_wp2
                  repeat (go_quiet (fail); try go_wp2)
                  go_ret
                  exact ⟨by first | rfl | (simp; done) | (simp [*]; done), by repeat (first | exact Drawn0.refl _ | apply Drawn0.step)⟩
              · rw [if_neg c8] at H
                exact absurd H (by simp)
            · rw [if_neg c6] at H
              exact absurd H (by simp)
          · rw [if_neg c5] at H
            exact absurd H (by simp)
        · rw [if_neg c4] at H
          have c4b0 : decide (x15_1 < (a0.size : Int)) = false := decide_eq_false c4
          clear c4
          obtain rfl := Option.some.inj H
          go_wp2
          repeat (go_quiet (fail); try go_wp2)
          go_ret
          exact ⟨by first | rfl | (simp; done) | (simp [*]; done), by repeat (first | exact Drawn0.refl _ | apply Drawn0.step)⟩
  · rw [if_neg c3] at H
    have c3b0 : ((a0.size : Int) == (a1.size : Int)) = false := beq_eq_false_iff_ne.mpr c3
    have c3b1 : ((a0.size : Int) != (a1.size : Int)) = true := bne_iff_ne.mpr c3
    have c3b2 : (a0.size == a1.size) = false := by first | simpa using c3 | (simp at c3 ⊢; omega)
    obtain rfl := Option.some.inj H
    go_enter Tryz.func31, Tryz.ntmps31
    go_wp2
    repeat (go_quiet (fail); try go_wp2)
    go_ret
    exact ⟨by first | rfl | (simp; done) | (simp [*]; done), by repeat (first | exact Drawn0.refl _ | apply Drawn0.step)⟩

/-! ### feed_value: function 17 -/
def feed_value.l0 : Nat → List (S36) → ByteArray → Int → Option (ByteArray × Bool)
  | 0, _, _, _ => none
  | k + 1, x0, x1, x6 => if x6 ≥ 0 then (if 0 ≤ x6 then (if x6 < (x0.length : Int) then ((feed_same.f k ((rd_T36 x0 x6).f0) x1).bind fun t104 => (if t104 = true then ((strings_Trim.f ((rd_T36 x0 x6).f1) (⟨#[32, 9]⟩ : ByteArray)).bind fun t106 => (some (t106, true))) else (feed_value.l0 k x0 x1 (wrap64 (x6 - 1))))) else (none)) else (none)) else (some ((⟨#[]⟩ : ByteArray), false))
def feed_value.f (k : Nat) (l0 : List (S36)) (a1 : ByteArray) : Option (ByteArray × Bool) := feed_value.l0 k l0 a1 (wrap64 ((l0.length : Int) - 1))
theorem feed_value.mono_l : ∀ k, (∀ y0 y1 y2, LeO (feed_value.l0 k y0 y1 y2) (feed_value.l0 (k + 1) y0 y1 y2))
  | 0 => fun _ _ _ r h => by simp [feed_value.l0] at h
  | k + 1 => by
    have ih0 := feed_value.mono_l k
    · intro y0 y1 y2
      unfold feed_value.l0
      repeat' first
      | (with_reducible exact ih0 _ _ _)
      | (with_reducible exact feed_same.mono _ _ _)
      | (with_reducible exact LeO.refl _)
      | (with_reducible exact LeO.none _)
      | (with_reducible refine LeO.ite ?_ ?_)
      | (with_reducible refine LeO.bind ?_ (fun _ => ?_))
      | exact ih0 _ _ _
      | exact feed_same.mono _ _ _
      | exact LeO.none _
      | refine LeO.ite ?_ ?_
      | refine LeO.bind ?_ (fun _ => ?_)
theorem feed_value.mono : ∀ a0 a1 k, LeO (feed_value.f k a0 a1) (feed_value.f (k + 1) a0 a1) := by
  intro a0 a1 k
  have ih0 := feed_value.mono_l k
  unfold feed_value.f
  repeat' first
      | (with_reducible exact ih0 _ _ _)
      | (with_reducible exact feed_same.mono _ _ _)
      | (with_reducible exact LeO.refl _)
      | (with_reducible exact LeO.none _)
      | (with_reducible refine LeO.ite ?_ ?_)
      | (with_reducible refine LeO.bind ?_ (fun _ => ?_))
      | exact ih0 _ _ _
      | exact feed_same.mono _ _ _
      | exact LeO.none _
      | refine LeO.ite ?_ ?_
      | refine LeO.bind ?_ (fun _ => ?_)
set_option maxHeartbeats 8000000 in
set_option maxRecDepth 100000 in
theorem feed_value.calls (k : Nat) (A0 : Option Addr) (c0 : Nat) (l0 : List (S36)) (a1 : ByteArray) (r1 : ByteArray) (r2 : Bool) (w : World) (hr0 : Kd.C k36 w A0 l0.length l0) (hc0 : l0.length ≤ c0) (h : feed_value.f k l0 a1 = some (r1, r2)) :
    Calls Tryz.prog 17 #[.slice A0 l0.length c0, .string a1] w fun e w' => e = .returned (.tuple #[.string r1, .bool r2]) ∧ Below w.heap.size w w' := by
  have HR0 := Aside0.mk hr0
  have HC0 := Aside0.mk hc0
  clear hr0 hc0
  have HB := Aside0.mk (Below.refl w.heap.size w)
  have H : (feed_value.l0 k l0 a1 (wrap64 ((l0.length : Int) - 1))) = some (r1, r2) := h
  clear h
  have H' := Aside0.mk H
  clear H
  go_enter Tryz.func17, Tryz.ntmps17
  go_wp2
  go_loopg [6] k (fun kq v6 w' => ∃ (x6_1 : Int), v6 = .int .i64 x6_1 ∧ Aside0 (feed_value.l0 kq l0 a1 x6_1 = some (r1, r2)) ∧ Aside0 (kq ≤ k) ∧ Aside0 (Below w.heap.size w w'))
  case atStart => exact ⟨(wrap64 ((l0.length : Int) - 1)), (by first | rfl | (simp; done) | (simp [*]; done)), H', ⟨Nat.le_refl _⟩, ⟨by repeat (first | (with_reducible first | exact HB.out | apply below_alloc | apply pw_below_drewN | apply below_drew1) | exact HB.out)⟩⟩
  case round =>
    clear H'
    try clear c1
    try clear p2
    obtain ⟨x6_1, rfl, HA, HK1, HB⟩ := hrel
    cases gk with
    | zero => exact absurd HA.out (by simp [feed_value.l0])
    | succ k1 =>
      have H := HA.out
      clear HA
      simp only [feed_value.l0] at H
      by_cases c3 : x6_1 ≥ 0
      · rw [if_pos c3] at H
        have c3b0 : decide (0 ≤ x6_1) = true := decide_eq_true c3
        clear c3
        by_cases c4 : 0 ≤ x6_1
        · rw [if_pos c4] at H
          have c4b0 : decide (0 ≤ x6_1) = true := decide_eq_true c4
          clear c4
          by_cases c5 : x6_1 < (l0.length : Int)
          · rw [if_pos c5] at H
            have c5b0 : decide (x6_1 < (l0.length : Int)) = true := decide_eq_true c5
            clear c5
            replace H := Option.bind_eq_some_iff.mp H
            obtain ⟨t104, A60, H⟩ := H
            replace H : (if t104 = true then ((strings_Trim.f ((rd_T36 l0 x6_1).f1) (⟨#[32, 9]⟩ : ByteArray)).bind fun t106 => (some (t106, true))) else (feed_value.l0 k1 l0 a1 (wrap64 (x6_1 - 1)))) = some (r1, r2) := H
            have A6 := Aside0.mk A60
            clear A60
            by_cases c7 : t104 = true
            · subst c7
              have H1 : ((strings_Trim.f ((rd_T36 l0 x6_1).f1) (⟨#[32, 9]⟩ : ByteArray)).bind fun t106 => (some (t106, true))) = some (r1, r2) := by rw [if_pos rfl] at H; exact H
              clear H
              have H := H1
              clear H1
              replace H := Option.bind_eq_some_iff.mp H
              obtain ⟨t106, A80, H⟩ := H
              replace H : (some (t106, true)) = some (r1, r2) := H
              have A8 := Aside0.mk A80
              clear A80
              simp only [Option.some.injEq, Prod.mk.injEq] at H
              obtain ⟨rfl, rfl⟩ := H
              have p103 : 0 ≤ (x6_1 : Int) := of_decide_eq_true (by first | (with_reducible assumption) | assumption)
              have q103 : x6_1 < (l0.length : Int) := of_decide_eq_true (by first | (with_reducible assumption) | assumption)
              obtain ⟨ad103, e103, hx103_0, hx103_1⟩ := at_T36 HR0.out x6_1 p103 q103
              cases e103
              replace hx103_0 := (HB.out.cell (World.block_lt_of_cell? w _ hx103_0)).trans hx103_0
              replace hx103_1 := (HB.out.cell (World.block_lt_of_cell? w _ hx103_1)).trans hx103_1
              replace p103 := eq_true p103
              replace q103 := eq_true q103
              go_wp2_with (first | ((with_reducible refine gate_callee (f := 31) rfl ?_); refine goesL_ (some 20) rfl rfl Tryz.func31 (by kernel_rfl) rfl #[.string ((rd_T36 l0 x6_1).f0), .string a1] rfl (by (try simp only [List.map_toArray, List.map_cons, List.map_nil]); first | done | rfl | (simp only [List.length_drop, List.length_take]; rfl)) ?_; (with_reducible refine (feed_same.calls k1 ((rd_T36 l0 x6_1).f0) a1 true _ A6.out).mono ?_); rintro e w' ⟨rfl, ⟨nd, rfl⟩⟩; refine ⟨_, rfl, ?_⟩; have p105 : 0 ≤ (x6_1 : Int) := of_decide_eq_true (by first | (with_reducible assumption) | assumption); have q105 : x6_1 < (l0.length : Int) := of_decide_eq_true (by first | (with_reducible assumption) | assumption); obtain ⟨ad105, e105, hx105_0, hx105_1⟩ := at_T36 HR0.out x6_1 p105 q105; obtain rfl : ad103 = ad105 := (by injection e105); replace hx105_0 := (HB.out.cell (World.block_lt_of_cell? w _ hx105_0)).trans hx105_0; replace hx105_1 := (HB.out.cell (World.block_lt_of_cell? w _ hx105_1)).trans hx105_1; replace p105 := eq_true p105; replace q105 := eq_true q105) | ((with_reducible refine gate_callee (f := 27) rfl ?_); refine goesL_ (some 26) rfl rfl Tryz.func27 (by kernel_rfl) rfl #[.string ((rd_T36 l0 x6_1).f1), .string (⟨#[32, 9]⟩ : ByteArray)] rfl (by (try simp only [List.map_toArray, List.map_cons, List.map_nil]); first | done | rfl | (simp only [List.length_drop, List.length_take]; rfl)) ?_; (with_reducible refine (strings_Trim.calls ((rd_T36 l0 x6_1).f1) (⟨#[32, 9]⟩ : ByteArray) t106 _ A8.out).mono ?_); rintro e w9 ⟨rfl, hb⟩; refine ⟨_, rfl, ?_⟩; have n0_ := Aside0.mk (below_step (by repeat (first | (with_reducible first | exact HB.out | apply below_alloc | apply pw_below_drewN | apply below_drew1) | exact HB.out)) hb); clear HB; have HB := n0_; clear n0_; (try clear hb); (try clear hb2); (try clear hk); (try clear hi)))
              go_ret2
              exact ⟨by first | rfl | (simp [errW_none, errW_some] <;> rfl) | (simp [*, errW_none, errW_some] <;> rfl), by repeat (first | (with_reducible first | exact HB.out | apply below_alloc | apply pw_below_drewN | apply below_drew1) | exact HB.out)⟩
            · replace c7 := Bool.eq_false_iff.mpr c7
              subst c7
              have H1 : (feed_value.l0 k1 l0 a1 (wrap64 (x6_1 - 1))) = some (r1, r2) := by rw [if_neg (show ¬ (false = true) by decide)] at H; exact H
              clear H
              have H := H1
              clear H1
              have H' := Aside0.mk H
              clear H
              have p103 : 0 ≤ (x6_1 : Int) := of_decide_eq_true (by first | (with_reducible assumption) | assumption)
              have q103 : x6_1 < (l0.length : Int) := of_decide_eq_true (by first | (with_reducible assumption) | assumption)
              obtain ⟨ad103, e103, hx103_0, hx103_1⟩ := at_T36 HR0.out x6_1 p103 q103
              cases e103
              replace hx103_0 := (HB.out.cell (World.block_lt_of_cell? w _ hx103_0)).trans hx103_0
              replace hx103_1 := (HB.out.cell (World.block_lt_of_cell? w _ hx103_1)).trans hx103_1
              replace p103 := eq_true p103
              replace q103 := eq_true q103
              go_wp2_with (first | ((with_reducible refine gate_callee (f := 31) rfl ?_); refine goesL_ (some 20) rfl rfl Tryz.func31 (by kernel_rfl) rfl #[.string ((rd_T36 l0 x6_1).f0), .string a1] rfl (by (try simp only [List.map_toArray, List.map_cons, List.map_nil]); first | done | rfl | (simp only [List.length_drop, List.length_take]; rfl)) ?_; (with_reducible refine (feed_same.calls k1 ((rd_T36 l0 x6_1).f0) a1 false _ A6.out).mono ?_); rintro e w' ⟨rfl, ⟨nd, rfl⟩⟩; refine ⟨_, rfl, ?_⟩))
              go_roundg k1
              case measure => have := HK1.out; omega
              case rel => exact ⟨(wrap64 (x6_1 - 1)), (by first | rfl | (simp; done) | (simp [*]; done)), H', ⟨by have := HK1.out; omega⟩, ⟨by repeat (first | (with_reducible first | exact HB.out | apply below_alloc | apply pw_below_drewN | apply below_drew1) | exact HB.out)⟩⟩
          · rw [if_neg c5] at H
            exact absurd H (by simp)
        · rw [if_neg c4] at H
          exact absurd H (by simp)
      · rw [if_neg c3] at H
        have c3b0 : decide (0 ≤ x6_1) = false := decide_eq_false c3
        clear c3
        simp only [Option.some.injEq, Prod.mk.injEq] at H
        obtain ⟨rfl, rfl⟩ := H
        go_wp2
        go_ret2
        exact ⟨by first | rfl | (simp [errW_none, errW_some] <;> rfl) | (simp [*, errW_none, errW_some] <;> rfl), by repeat (first | (with_reducible first | exact HB.out | apply below_alloc | apply pw_below_drewN | apply below_drew1) | exact HB.out)⟩

end
end Go.Proofs.YtelgjeeleofgoaaGreatDoor.PF

/- Words that all texts of this seat use: worlds that only drew, the builtins max and min. -/
namespace Go.Proofs.YtelgjeeleofgoaaGreatDoor
open Go.RowKit

/-- The world w' is w but for draws. -/
def Drawn (w w' : World) : Prop := ∃ n, w' = w.drewN n
theorem Drawn.refl (w : World) : Drawn w w := ⟨0, rfl⟩
theorem Drawn.below {w w' : World} (h : Drawn w w') : Below w.heap.size w w' := by
  obtain ⟨n, rfl⟩ := h
  exact ⟨rfl, rfl, rfl, Nat.le_refl _, fun _ _ => rfl⟩

theorem max2_int (k k' : IntKind) (x y : Int) : Builtin.max2 (.int k x) (.int k' y) = pure (.int k (if x < y then y else x)) := by
  simp only [Builtin.max2, gt_iff_lt]
theorem min2_int (k k' : IntKind) (x y : Int) : Builtin.min2 (.int k x) (.int k' y) = pure (.int k (if y < x then y else x)) := by
  simp only [Builtin.min2]
theorem max_two (ats : Array TypeId) (ty : TypeId) (a b : Value) : Builtin.max_ ats ty #[a, b] = (Builtin.max2 a b >>= fun s => pure s) := by
  simp only [Builtin.max_, List.foldlM_cons, List.foldlM_nil]
theorem min_two (ats : Array TypeId) (ty : TypeId) (a b : Value) : Builtin.min_ ats ty #[a, b] = (Builtin.min2 a b >>= fun s => pure s) := by
  simp only [Builtin.min_, List.foldlM_cons, List.foldlM_nil]
theorem max_three (ats : Array TypeId) (ty : TypeId) (a b c : Value) : Builtin.max_ ats ty #[a, b, c] = (Builtin.max2 a b >>= fun s => Builtin.max2 s c >>= fun s => pure s) := by
  simp only [Builtin.max_, List.foldlM_cons, List.foldlM_nil]

theorem ret_int {k : IntKind} {a b : Int} (h : a = b) : Ending.returned (.int k a) = .returned (.int k b) := by rw [h]
theorem ret_bool {a b : Bool} (h : a = b) : Ending.returned (.bool a) = .returned (.bool b) := by rw [h]

theorem bdrewN {B : Nat} {a w : World} (h : Below B a w) (n : Nat) : Below B a (w.drewN n) := h.trans ⟨rfl, rfl, rfl, Nat.le_refl _, fun _ _ => rfl⟩
/-- What a walk knows of old memory behind a call that left it alone. -/
theorem bcell {W w1 : World} (hb : Below W.heap.size W w1) : (∀ b o, b < W.heap.size → w1.cell? ⟨b, o, none⟩ = W.cell? ⟨b, o, none⟩) ∧ (∀ b o, b < W.heap.size → w1.frozen? ⟨b, o, none⟩ = W.frozen? ⟨b, o, none⟩) :=
  ⟨fun b o h => hb.cell (p := ⟨b, o, none⟩) h, fun b o h => hb.frozen (p := ⟨b, o, none⟩) h⟩
end Go.Proofs.YtelgjeeleofgoaaGreatDoor

/- tick.held, Add, Mul: sums and products that stop at the ends. -/
namespace Go.Proofs.YtelgjeeleofgoaaGreatDoor
open Go.RowKit
set_option linter.unusedSimpArgs false
set_option linter.unusedVariables false
attribute [local go_sem] max2_int min2_int max_two min_two max_three

def held (n : Int) : Int := if n < -4611686018427387903 then -4611686018427387903 else if 4611686018427387903 < n then 4611686018427387903 else n
theorem held_bd (n : Int) : -4611686018427387903 ≤ held n ∧ held n ≤ 4611686018427387903 := by unfold held; split <;> (try split) <;> omega

set_option maxHeartbeats 400000 in
theorem held_any (n : Int) (w : World) : Calls Tryz.prog 57 #[.int .i64 n] w fun e w' => e = .returned (.int .i64 (held n)) ∧ w = w' := by
  go_enter Tryz.func57, Tryz.ntmps57
  go_wp2
  all_goals
    go_ret
    refine ⟨ret_int ?_, rfl⟩
    unfold held
    (repeat' split) <;> omega

def tadd (a b : Int) : Int := held (held a + held b)
set_option maxHeartbeats 400000 in
theorem tadd_any (a b : Int) (w : World) : Calls Tryz.prog 35 #[.int .i64 a, .int .i64 b] w fun e w' => e = .returned (.int .i64 (tadd a b)) ∧ w = w' := by
  have ha := held_bd a
  have hb := held_bd b
  go_enter Tryz.func35, Tryz.ntmps35
  go_wp2_with (go_at_call 57; refine (held_any _ _).mono ?_; rintro e w' ⟨rfl, rfl⟩)
  go_ret
  exact ⟨rfl, rfl⟩

def mhi (x y : Int) : Int := x * y / 18446744073709551616
def mlo (x y : Int) : Int := x * y % 18446744073709551616
theorem mlo_bd (x y : Int) : 0 ≤ mlo x y := by unfold mlo; omega
theorem mhi_bd (x y : Int) (hx : 0 ≤ x) (hy : 0 ≤ y) : 0 ≤ mhi x y := by
  unfold mhi
  exact Int.ediv_nonneg (Int.mul_nonneg hx hy) (by decide)
theorem mul64_int (x y : Int) (w : World) (hx : 0 ≤ x) (hy : 0 ≤ y) (hx1 : x ≤ 4611686018427387903) (hy1 : y ≤ 4611686018427387903) :
    Calls Tryz.prog 58 #[.int .u64 x, .int .u64 y] w fun e w' => e = .returned (.tuple #[.int .u64 (mhi x y), .int .u64 (mlo x y)]) ∧ w = w' := by
  obtain ⟨x, rfl⟩ := Int.eq_ofNat_of_zero_le hx
  obtain ⟨y, rfl⟩ := Int.eq_ofNat_of_zero_le hy
  refine (Tryz.bits_Mul64 x y (by omega) (by omega) w).mono ?_
  rintro e w' ⟨rfl, rfl⟩
  refine ⟨?_, rfl⟩
  unfold mhi mlo
  rw [Int.natCast_ediv, Int.natCast_emod, Int.natCast_mul]
  rfl

def tmul (a b : Int) : Int :=
  let a := held a
  let b := held b
  let p := a.natAbs * b.natAbs
  let n : Int := if p < 4611686018427387903 then p else 4611686018427387903
  if (decide (a < 0) != decide (b < 0)) then -n else n

theorem mulhl (x y : Int) (hx : 0 ≤ x) (hy : 0 ≤ y) (s : Bool) : (if s then -(if x.natAbs * y.natAbs < 4611686018427387903 then ((x.natAbs * y.natAbs : Nat) : Int) else 4611686018427387903) else (if x.natAbs * y.natAbs < 4611686018427387903 then ((x.natAbs * y.natAbs : Nat) : Int) else 4611686018427387903)) =
    if s then -(if mhi x y = 0 ∧ mlo x y < 4611686018427387903 then mlo x y else 4611686018427387903) else (if mhi x y = 0 ∧ mlo x y < 4611686018427387903 then mlo x y else 4611686018427387903) := by
  have e : ((x.natAbs * y.natAbs : Nat) : Int) = x * y := by rw [Int.natCast_mul, Int.natAbs_of_nonneg hx, Int.natAbs_of_nonneg hy]
  unfold mhi mlo
  rw [e]
  have h : (x.natAbs * y.natAbs < 4611686018427387903) = (x * y / 18446744073709551616 = 0 ∧ x * y % 18446744073709551616 < 4611686018427387903) := by
    have h0 : 0 ≤ x * y := Int.mul_nonneg hx hy
    generalize x.natAbs * y.natAbs = n at e
    generalize x * y = m at *
    apply propext; omega
  simp only [h]
  have h0 : 0 ≤ x * y := Int.mul_nonneg hx hy
  split <;> split <;> rename_i hs hc <;> first | rfl | (obtain ⟨h1, h2⟩ := hc; omega)
set_option maxHeartbeats 2000000 in
theorem tmul_any (a b : Int) (w : World) : Calls Tryz.prog 30 #[.int .i64 a, .int .i64 b] w fun e w' => e = .returned (.int .i64 (tmul a b)) ∧ w = w' := by
  have ha := held_bd a
  have hb := held_bd b
  by_cases sa : held a < 0
  · by_cases sb : held b < 0
    · have A1 : decide (held a < 0) = true := by simp; omega
      have B1 : decide (held b < 0) = true := by simp; omega
      have m0 := mlo_bd (-held a) (-held b)
      have H := mulhl (-held a) (-held b) (by omega) (by omega) false
      have HH := Lib.hid H; clear H
      go_enter Tryz.func30, Tryz.ntmps30
      go_wp2_with first | (go_at_call 57; refine (held_any _ _).mono ?_; rintro e w' ⟨rfl, rfl⟩) | (go_at_call 58; refine (mul64_int _ _ _ (by omega) (by omega) (by omega) (by omega)).mono ?_; rintro e w' ⟨rfl, rfl⟩)
      all_goals
        go_ret
        refine ⟨ret_int ?_, rfl⟩
        have H := HH.out
        simp only [Int.natAbs_neg, if_true, if_false, Bool.false_eq_true] at H
        simp only [tmul, A1, B1, bne_self_eq_false, Bool.true_bne, Bool.false_bne, Bool.not_false, Bool.not_true, if_true, if_false, Bool.false_eq_true, H]
        first | rw [if_pos ⟨by assumption, by assumption⟩] | (rw [if_neg (by omega)])
    · have A1 : decide (held a < 0) = true := by simp; omega
      have B1 : decide (held b < 0) = false := by simp; omega
      have m0 := mlo_bd (-held a) (held b)
      have H := mulhl (-held a) (held b) (by omega) (by omega) true
      have HH := Lib.hid H; clear H
      go_enter Tryz.func30, Tryz.ntmps30
      go_wp2_with first | (go_at_call 57; refine (held_any _ _).mono ?_; rintro e w' ⟨rfl, rfl⟩) | (go_at_call 58; refine (mul64_int _ _ _ (by omega) (by omega) (by omega) (by omega)).mono ?_; rintro e w' ⟨rfl, rfl⟩)
      all_goals
        go_ret
        refine ⟨ret_int ?_, rfl⟩
        have H := HH.out
        simp only [Int.natAbs_neg, if_true, if_false, Bool.false_eq_true] at H
        simp only [tmul, A1, B1, bne_self_eq_false, Bool.true_bne, Bool.false_bne, Bool.not_false, Bool.not_true, if_true, if_false, Bool.false_eq_true, H]
        first | rw [if_pos ⟨by assumption, by assumption⟩] | (rw [if_neg (by omega)])
  · by_cases sb : held b < 0
    · have A1 : decide (held a < 0) = false := by simp; omega
      have B1 : decide (held b < 0) = true := by simp; omega
      have m0 := mlo_bd (held a) (-held b)
      have H := mulhl (held a) (-held b) (by omega) (by omega) true
      have HH := Lib.hid H; clear H
      go_enter Tryz.func30, Tryz.ntmps30
      go_wp2_with first | (go_at_call 57; refine (held_any _ _).mono ?_; rintro e w' ⟨rfl, rfl⟩) | (go_at_call 58; refine (mul64_int _ _ _ (by omega) (by omega) (by omega) (by omega)).mono ?_; rintro e w' ⟨rfl, rfl⟩)
      all_goals
        go_ret
        refine ⟨ret_int ?_, rfl⟩
        have H := HH.out
        simp only [Int.natAbs_neg, if_true, if_false, Bool.false_eq_true] at H
        simp only [tmul, A1, B1, bne_self_eq_false, Bool.true_bne, Bool.false_bne, Bool.not_false, Bool.not_true, if_true, if_false, Bool.false_eq_true, H]
        first | rw [if_pos ⟨by assumption, by assumption⟩] | (rw [if_neg (by omega)])
    · have A1 : decide (held a < 0) = false := by simp; omega
      have B1 : decide (held b < 0) = false := by simp; omega
      have m0 := mlo_bd (held a) (held b)
      have H := mulhl (held a) (held b) (by omega) (by omega) false
      have HH := Lib.hid H; clear H
      go_enter Tryz.func30, Tryz.ntmps30
      go_wp2_with first | (go_at_call 57; refine (held_any _ _).mono ?_; rintro e w' ⟨rfl, rfl⟩) | (go_at_call 58; refine (mul64_int _ _ _ (by omega) (by omega) (by omega) (by omega)).mono ?_; rintro e w' ⟨rfl, rfl⟩)
      all_goals
        go_ret
        refine ⟨ret_int ?_, rfl⟩
        have H := HH.out
        simp only [Int.natAbs_neg, if_true, if_false, Bool.false_eq_true] at H
        simp only [tmul, A1, B1, bne_self_eq_false, Bool.true_bne, Bool.false_bne, Bool.not_false, Bool.not_true, if_true, if_false, Bool.false_eq_true, H]
        first | rw [if_pos ⟨by assumption, by assumption⟩] | (rw [if_neg (by omega)])
end Go.Proofs.YtelgjeeleofgoaaGreatDoor

/- tick.Mul and tick.Add, in the print's form. -/
namespace Go.Proofs.YtelgjeeleofgoaaGreatDoor
open Go.RowKit
def tick_Mul.f (a b : Int) : Option Int := some (tmul a b)
theorem tick_Mul.calls (a0 a1 r : Int) (w : World) (h : tick_Mul.f a0 a1 = some r) :
    Calls Tryz.prog 30 #[.int .i64 a0, .int .i64 a1] w fun e w' => e = .returned (.int .i64 r) ∧ Below w.heap.size w w' := by
  obtain rfl := Option.some.inj h
  refine (tmul_any a0 a1 w).mono ?_
  rintro e w' ⟨rfl, rfl⟩
  exact ⟨rfl, Below.refl _ _⟩
def tick_Add.f (a b : Int) : Option Int := some (tadd a b)
theorem tick_Add.calls (a0 a1 r : Int) (w : World) (h : tick_Add.f a0 a1 = some r) :
    Calls Tryz.prog 35 #[.int .i64 a0, .int .i64 a1] w fun e w' => e = .returned (.int .i64 r) ∧ Below w.heap.size w w' := by
  obtain rfl := Option.some.inj h
  refine (tadd_any a0 a1 w).mono ?_
  rintro e w' ⟨rfl, rfl⟩
  exact ⟨rfl, Below.refl _ _⟩
end Go.Proofs.YtelgjeeleofgoaaGreatDoor

-- Printed by a program of this session (wip/pp.sh) out of the translation. Not trusted: Lean checks it.
namespace Go.Proofs.YtelgjeeleofgoaaGreatDoor.PF
open Go.RowKit Go.Proofs.YtelgjeeleofgoaaGreatDoorW.PrintWords Go.Proofs.YtelgjeeleofgoaaGreatDoorW.PrintLast Go.Proofs.YtelgjeeleofgoaaGreatDoorW.PrintMore
attribute [local go_sem] max2_int min2_int max_two min_two max_three min_three max_four min_four   -- for this text's walks alone
set_option linter.unusedVariables false
set_option linter.unusedSimpArgs false
noncomputable section

/-! ### feed_later: function 19 -/
def feed_later.f (a0 : Int) (a1 : Int) : Option (Int × Bool) := if a1 < 0 then (some (0, false)) else ((tick_Mul.f a1 1000).bind fun t131 => ((tick_Add.f a0 t131).bind fun t132 => (some (mn t132 1099511627776, true))))
set_option maxHeartbeats 8000000 in
set_option maxRecDepth 100000 in
theorem feed_later.calls (a0 : Int) (a1 : Int) (r1 : Int) (r2 : Bool) (w : World) (h : feed_later.f a0 a1 = some (r1, r2)) :
    Calls Tryz.prog 19 #[.int .i64 a0, .int .i64 a1] w fun e w' => e = .returned (.tuple #[.int .i64 r1, .bool r2]) ∧ Below w.heap.size w w' := by
  have HB := Aside0.mk (Below.refl w.heap.size w)
  have H : (if a1 < 0 then (some (0, false)) else ((tick_Mul.f a1 1000).bind fun t131 => ((tick_Add.f a0 t131).bind fun t132 => (some (mn t132 1099511627776, true))))) = some (r1, r2) := h
  clear h
  by_cases c3 : a1 < 0
  · rw [if_pos c3] at H
    have c3b0 : decide (a1 < 0) = true := decide_eq_true c3
    clear c3
    simp only [Option.some.injEq, Prod.mk.injEq] at H
    obtain ⟨rfl, rfl⟩ := H
    go_enter Tryz.func19, Tryz.ntmps19
    go_wp2
    go_ret2
    exact ⟨by first | rfl | (simp [errW_none, errW_some] <;> rfl) | (simp [*, errW_none, errW_some] <;> rfl), by repeat (first | (with_reducible first | exact HB.out | apply below_alloc | apply pw_below_drewN | apply below_drew1) | exact HB.out)⟩
  · rw [if_neg c3] at H
    have c3b0 : decide (a1 < 0) = false := decide_eq_false c3
    clear c3
    replace H := Option.bind_eq_some_iff.mp H
    obtain ⟨t131, A40, H⟩ := H
    replace H : ((tick_Add.f a0 t131).bind fun t132 => (some (mn t132 1099511627776, true))) = some (r1, r2) := H
    have A4 := Aside0.mk A40
    clear A40
    replace H := Option.bind_eq_some_iff.mp H
    obtain ⟨t132, A50, H⟩ := H
    replace H : (some (mn t132 1099511627776, true)) = some (r1, r2) := H
    have A5 := Aside0.mk A50
    clear A50
    obtain ⟨ji6, hji6⟩ : ∃ j_ : Int, (mn t132 1099511627776) = j_ := ⟨_, rfl⟩
    replace H : (some (ji6, true)) = some (r1, r2) := by first | (rw [hji6] at H; exact H) | (simp only [hji6] at H ⊢; exact H)
    (try rw [hji6] at A4)
    (try rw [hji6] at A5)
    (try (have hji6h : ji6 ≤ 1099511627776 := by (rw [← hji6]; unfold mn; (repeat' split) <;> omega)))
    (try (have hji6g : ji6 ≤ 64 := by omega))
    have hji6_ : (if 1099511627776 < t132 then 1099511627776 else t132) = ji6 := hji6
    simp only [Option.some.injEq, Prod.mk.injEq] at H
    obtain ⟨rfl, rfl⟩ := H
    go_enter Tryz.func19, Tryz.ntmps19
    go_wp2_with (first | ((with_reducible refine gate_callee (f := 30) rfl ?_); refine goesL_ (some 10) rfl rfl Tryz.func30 (by kernel_rfl) rfl #[.int .i64 a1, .int .i64 1000] rfl (by (try simp only [List.map_toArray, List.map_cons, List.map_nil]); first | done | rfl | (simp only [List.length_drop, List.length_take]; rfl)) ?_; (with_reducible refine (tick_Mul.calls a1 1000 t131 _ A4.out).mono ?_); rintro e w7 ⟨rfl, hb⟩; refine ⟨_, rfl, ?_⟩; have n0_ := Aside0.mk (below_step (by repeat (first | (with_reducible first | exact HB.out | apply below_alloc | apply pw_below_drewN | apply below_drew1) | exact HB.out)) hb); clear HB; have HB := n0_; clear n0_; (try clear hb); (try clear hb2); (try clear hk); (try clear hi)) | ((with_reducible refine gate_callee (f := 35) rfl ?_); refine goesL_ (some 11) rfl rfl Tryz.func35 (by kernel_rfl) rfl #[.int .i64 a0, .int .i64 t131] rfl (by (try simp only [List.map_toArray, List.map_cons, List.map_nil]); first | done | rfl | (simp only [List.length_drop, List.length_take]; rfl)) ?_; (with_reducible refine (tick_Add.calls a0 t131 t132 _ A5.out).mono ?_); rintro e w8 ⟨rfl, hb⟩; refine ⟨_, rfl, ?_⟩; have n0_ := Aside0.mk (below_step (by repeat (first | (with_reducible first | exact HB.out | apply below_alloc | apply pw_below_drewN | apply below_drew1) | exact HB.out)) hb); clear HB; have HB := n0_; clear n0_; (try clear hb); (try clear hb2); (try clear hk); (try clear hi)))
    go_ret2
    exact ⟨by first | rfl | (simp [errW_none, errW_some] <;> rfl) | (simp only [← hji6]; first | rfl | (simp [errW_none, errW_some] <;> rfl)) | (simp [*, errW_none, errW_some] <;> rfl), by repeat (first | (with_reducible first | exact HB.out | apply below_alloc | apply pw_below_drewN | apply below_drew1) | exact HB.out)⟩

end
end Go.Proofs.YtelgjeeleofgoaaGreatDoor.PF

/- The plain words of package field: what a text of a field says, over lists of bytes. No program in sight. -/
namespace Go.Proofs.YtelgjeeleofgoaaGreatDoor.FM

abbrev Bs := List UInt8
def small (c : UInt8) : Bool := decide (97 ≤ c.toNat ∧ c.toNat ≤ 122)
def large (c : UInt8) : Bool := decide (65 ≤ c.toNat ∧ c.toNat ≤ 90)
def digit (c : UInt8) : Bool := decide (48 ≤ c.toNat ∧ c.toNat ≤ 57)
def inKey (c : UInt8) : Bool := small c || digit c || [95, 45, 46, 42].contains c
def inWord (c : UInt8) : Bool := inKey c || large c || [33, 35, 36, 37, 38, 39, 43, 94, 124, 126, 58, 47].contains c

structure V where
  k : Int
  n : Int
  s : Bs
structure Pm where
  key : Bs
  v : V
structure It where
  key : Bs
  v : V
  ps : List Pm

def num (l : Bs) : Int := l.foldl (fun a c => 10 * a + ((c.toNat : Int) - 48)) 0

/-- A name, and what is left. -/
def pKey (l : Bs) : Option (Bs × Bs) :=
  match l with
  | [] => none
  | c :: _ => if small c = true ∨ c.toNat = 42 then some (l.takeWhile inKey, l.dropWhile inKey) else none

/-- What stands behind an opening sign, up to the closing one (f: no fewer rounds than signs). -/
def pQuoted : Nat → Bs → Bs → Option (Bs × Bs)
  | 0, _, _ => none
  | f + 1, acc, l =>
    match l with
    | [] => none
    | c :: r =>
      if c.toNat = 34 then some (acc, r)
      else if c.toNat = 92 then
        match r with
        | [] => none
        | d :: r' => if d.toNat = 34 ∨ d.toNat = 92 then pQuoted f (acc ++ [d]) r' else none
      else if c.toNat < 32 ∨ 126 < c.toNat then none
      else pQuoted f (acc ++ [c]) r

/-- Digits, a sign ahead of them or not. -/
def pDigits (neg : Bool) (l : Bs) : Option (V × Bs) :=
  if (l.takeWhile digit).length = 0 ∨ 15 < (l.takeWhile digit).length then none
  else some (⟨1, if neg then -(num (l.takeWhile digit)) else num (l.takeWhile digit), []⟩, l.dropWhile digit)

def pValue (l : Bs) : Option (V × Bs) :=
  match l with
  | [] => none
  | c :: r =>
    if c.toNat = 34 then (pQuoted (r.length + 1) [] r).map fun x => (⟨2, 0, x.1⟩, x.2)
    else if c.toNat = 63 then
      match r with
      | [] => none
      | d :: r' => if d.toNat = 49 then some (⟨4, 1, []⟩, r') else if d.toNat = 48 then some (⟨4, 0, []⟩, r') else none
    else if c.toNat = 45 then pDigits true r
    else if digit c = true then pDigits false l
    else if small c = true ∨ large c = true ∨ c.toNat = 42 then some (⟨3, 0, l.takeWhile inWord⟩, l.dropWhile inWord)
    else none

def flag : V := ⟨4, 1, []⟩
def pBehind (l : Bs) : Option (V × Bs) :=
  match l with
  | [] => some (flag, [])
  | c :: r => if c.toNat = 61 then pValue r else some (flag, l)

def blank (c : UInt8) : Bool := [32].contains c
def blank2 (c : UInt8) : Bool := [32, 9].contains c

def pParams : Nat → Bs → Option (List Pm × Bs)
  | 0, _ => none
  | f + 1, l =>
    match l with
    | [] => some ([], [])
    | c :: r =>
      if c.toNat = 59 then
        match pKey (r.dropWhile blank) with
        | none => none
        | some (k, l1) =>
          match pBehind l1 with
          | none => none
          | some (v, l2) => (pParams f l2).map fun x => (⟨k, v⟩ :: x.1, x.2)
      else some ([], l)

/-- The head of an item: a name (bare, or between signs), and its value. -/
def pHead (l : Bs) : Option (Bs × V × Bs) :=
  match l with
  | [] => none
  | c :: r =>
    if c.toNat = 34 then (pQuoted (r.length + 1) [] r).map fun x => (x.1, flag, x.2)
    else
      match pKey l with
      | none => none
      | some (k, l1) => (pBehind l1).map fun x => (k, x.1, x.2)
def pItem (l : Bs) : Option (It × Bs) :=
  match pHead l with
  | none => none
  | some (k, v, l1) => (pParams (l1.length + 1) l1).map fun x => (⟨k, v, x.1⟩, x.2)

/-- Items, no more than so many. -/
def pItems : Nat → Bs → Option (List It)
  | 0, _ => none
  | f + 1, l =>
    match pItem l with
    | none => none
    | some (x, l1) =>
      match l1.dropWhile blank2 with
      | [] => some [x]
      | c :: r => if c.toNat = 44 then (pItems f (r.dropWhile blank2)).map (x :: ·) else none

def trim (p : UInt8 → Bool) (l : Bs) : Bs := ((l.reverse.dropWhile p).reverse).dropWhile p
def pParse (l : Bs) : Option (List It) := if trim blank l = [] then some [] else pItems 16 (trim blank l)

theorem dropWhile_le (p : UInt8 → Bool) (l : Bs) : (l.dropWhile p).length ≤ l.length := by
  induction l with
  | nil => simp
  | cons c r ih => simp only [List.dropWhile_cons]; split <;> simp <;> omega
theorem takeWhile_le (p : UInt8 → Bool) (l : Bs) : (l.takeWhile p).length ≤ l.length := by
  induction l with
  | nil => simp
  | cons c r ih => simp only [List.takeWhile_cons]; split <;> simp <;> omega
theorem pKey_le {l k r : Bs} (h : pKey l = some (k, r)) : r.length ≤ l.length ∧ k.length ≤ l.length := by
  unfold pKey at h
  split at h
  · cases h
  · split at h
    · simp only [Option.some.injEq, Prod.mk.injEq] at h
      obtain ⟨rfl, rfl⟩ := h
      exact ⟨dropWhile_le _ _, takeWhile_le _ _⟩
    · cases h
theorem pQuoted_le : ∀ (f : Nat) (acc l k r : Bs), pQuoted f acc l = some (k, r) → r.length < l.length ∧ k.length ≤ acc.length + l.length := by
  intro f
  induction f with
  | zero => intro acc l k r h; simp [pQuoted] at h
  | succ f ih =>
    intro acc l k r h
    simp only [pQuoted] at h
    split at h
    · cases h
    · split at h
      · simp only [Option.some.injEq, Prod.mk.injEq] at h
        obtain ⟨rfl, rfl⟩ := h
        simp
      · split at h
        · split at h
          · cases h
          · split at h
            · have := ih _ _ _ _ h; simp at this ⊢; omega
            · cases h
        · split at h
          · cases h
          · have := ih _ _ _ _ h; simp at this ⊢; omega
theorem pDigits_le {n : Bool} {l r : Bs} {v : V} (h : pDigits n l = some (v, r)) : r.length ≤ l.length := by
  unfold pDigits at h
  split at h
  · cases h
  · simp only [Option.some.injEq, Prod.mk.injEq] at h
    obtain ⟨_, rfl⟩ := h
    exact dropWhile_le _ _
theorem pValue_le {l r : Bs} {v : V} (h : pValue l = some (v, r)) : r.length ≤ l.length := by
  unfold pValue at h
  split at h
  · cases h
  · split at h
    · simp only [Option.map_eq_some_iff, Prod.mk.injEq, Prod.exists] at h
      obtain ⟨a, b, h, _, rfl⟩ := h
      have := pQuoted_le _ _ _ _ _ h
      simp at this ⊢; omega
    · split at h
      · split at h
        · cases h
        · split at h
          · simp only [Option.some.injEq, Prod.mk.injEq] at h; obtain ⟨_, rfl⟩ := h; simp; omega
          · split at h
            · simp only [Option.some.injEq, Prod.mk.injEq] at h; obtain ⟨_, rfl⟩ := h; simp; omega
            · cases h
      · split at h
        · have := pDigits_le h; simp; omega
        · split at h
          · exact pDigits_le h
          · split at h
            · simp only [Option.some.injEq, Prod.mk.injEq] at h; obtain ⟨_, rfl⟩ := h; exact dropWhile_le _ _
            · cases h
theorem pBehind_le {l r : Bs} {v : V} (h : pBehind l = some (v, r)) : r.length ≤ l.length := by
  unfold pBehind at h
  split at h
  · simp only [Option.some.injEq, Prod.mk.injEq] at h; obtain ⟨_, rfl⟩ := h; simp
  · split at h
    · have := pValue_le h; simp; omega
    · simp only [Option.some.injEq, Prod.mk.injEq] at h; obtain ⟨_, rfl⟩ := h; simp
end Go.Proofs.YtelgjeeleofgoaaGreatDoor.FM

/- Numbers of decimal digits: what strconv.Atoi makes of them, in plain Lean. No program in sight. -/
namespace Go.Proofs.YtelgjeeleofgoaaGreatDoor
abbrev Bs := List UInt8
def bs (l : List UInt8) : ByteArray := ⟨l.toArray⟩
def dig (c : UInt8) : Bool := decide (48 ≤ c.toNat ∧ c.toNat ≤ 57)
def digs (l : Bs) : Bool := l.all dig
def numv (l : Bs) : Int := l.foldl (fun a c => 10 * a + ((c.toNat : Int) - 48)) 0
/-! ### numbers of digits -/
def decN (a : Nat) (l : Bs) : Nat := l.foldl (fun a c => a * 10 + (c.toNat - 48)) a
theorem decN_nil (a : Nat) : decN a [] = a := by unfold decN; rw [List.foldl_nil]
theorem decN_cons (a : Nat) (c : UInt8) (r : Bs) : decN a (c :: r) = decN (a * 10 + (c.toNat - 48)) r := by unfold decN; rw [List.foldl_cons]
theorem pu_nil (a : Nat) : Lib.parseUint10 a [] = .ok a := rfl
theorem decN_le : ∀ (l : Bs) (a : Nat), a ≤ decN a l
  | [], a => Nat.le_refl _
  | c :: r, a => Nat.le_trans (by omega) (decN_le r (a * 10 + (c.toNat - 48)))
theorem parse_step (c : UInt8) (r : Bs) (acc : Nat) (hc : 48 ≤ c.toNat ∧ c.toNat ≤ 57) :
    Lib.parseUint10 acc (c :: r) = if 1844674407370955162 ≤ acc then .range else if 18446744073709551616 ≤ acc * 10 + (c.toNat - 48) then .range else Lib.parseUint10 (acc * 10 + (c.toNat - 48)) r := by
  rw [Lib.parseUint10, if_pos hc]
theorem dig_cons {c : UInt8} {r : Bs} (hd : digs (c :: r) = true) : (48 ≤ c.toNat ∧ c.toNat ≤ 57) ∧ digs r = true := by
  have hd' : dig c = true ∧ digs r = true := by simpa [digs] using hd
  exact ⟨by simpa [dig] using hd'.1, hd'.2⟩
theorem parse_ok (l : Bs) : ∀ (acc : Nat), digs l = true → decN acc l < 18446744073709551616 → Lib.parseUint10 acc l = .ok (decN acc l) := by
  induction l with
  | nil => intro acc _ _; rw [pu_nil, decN_nil]
  | cons c r ih =>
    intro acc hd h
    obtain ⟨hc, hr⟩ := dig_cons hd
    rw [decN_cons] at h ⊢
    have hm := decN_le r (acc * 10 + (c.toNat - 48))
    rw [parse_step c r acc hc, if_neg (by omega), if_neg (by omega)]
    exact ih _ hr h
theorem parse_range (l : Bs) : ∀ (acc : Nat), digs l = true → acc < 18446744073709551616 → 18446744073709551616 ≤ decN acc l → Lib.parseUint10 acc l = .range := by
  induction l with
  | nil => intro acc _ h0 h; rw [decN_nil] at h; omega
  | cons c r ih =>
    intro acc hd h0 h
    obtain ⟨hc, hr⟩ := dig_cons hd
    rw [decN_cons] at h
    rw [parse_step c r acc hc]
    by_cases h1 : 1844674407370955162 ≤ acc
    · rw [if_pos h1]
    · rw [if_neg h1]
      by_cases h2 : 18446744073709551616 ≤ acc * 10 + (c.toNat - 48)
      · rw [if_pos h2]
      · rw [if_neg h2]
        exact ih _ hr (by omega) h
theorem numv_nat (l : Bs) (hd : digs l = true) : numv l = (decN 0 l : Nat) := by
  have : ∀ (l : Bs) (a : Nat), digs l = true → l.foldl (fun (a : Int) c => 10 * a + ((c.toNat : Int) - 48)) a = (decN a l : Nat) := by
    intro l
    induction l with
    | nil => intro a _; rfl
    | cons c r ih =>
      intro a hd
      have hd' : dig c = true ∧ digs r = true := by simpa [digs] using hd
      have hc : 48 ≤ c.toNat ∧ c.toNat ≤ 57 := by simpa [dig] using hd'.1
      simp only [List.foldl_cons, decN_cons]
      rw [← ih _ hd'.2]
      congr 1
      omega
  exact this l 0 hd
theorem atoi_digs (l : Bs) (hd : digs l = true) (hne : l ≠ []) :
    Lib.atoiAll l = if numv l ≤ 9223372036854775807 then .ok (numv l) else .range := by
  obtain ⟨c, r, rfl⟩ := List.exists_cons_of_ne_nil hne
  have hd' : dig c = true ∧ digs r = true := by simpa [digs] using hd
  have hc : 48 ≤ c.toNat ∧ c.toNat ≤ 57 := by simpa [dig] using hd'.1
  have hn := numv_nat (c :: r) hd
  have e1 : ¬ (c.toNat = 43 ∨ c.toNat = 45) := by omega
  have e2 : ¬ (c.toNat = 45) := by omega
  have hm : Lib.parseMag (c :: r) = Lib.parseUint10 0 (c :: r) := by rw [Lib.parseMag, if_neg hne]
  rw [hn]
  unfold Lib.atoiAll
  simp only [if_neg e1, hm]
  by_cases h : decN 0 (c :: r) < 18446744073709551616
  · rw [parse_ok _ _ hd h]
    simp only [e2, not_false_eq_true, true_and, false_and, if_false]
    by_cases h2 : 9223372036854775808 ≤ decN 0 (c :: r)
    · rw [if_pos h2, if_neg (by omega)]
    · rw [if_neg h2, if_pos (by omega)]
  · rw [parse_range _ _ hd (by omega) (by omega), if_neg (by omega)]
end Go.Proofs.YtelgjeeleofgoaaGreatDoor

/- The reader of package field: its state in memory, and what its calls leave alone; a sign taken. -/
namespace Go.Proofs.YtelgjeeleofgoaaGreatDoor
open Go.RowKit
set_option linter.unusedSimpArgs false
set_option linter.unusedVariables false

theorem bs_size (l : Bs) : (bs l).size = l.length := by simp [bs, ByteArray.size]
theorem bs_data (l : Bs) : (bs l).data.toList = l := by simp [bs]
theorem bs_toList (l : Bs) : (bs l).toList = l := by rw [Lib.toList_data, bs_data]
theorem bs_of (s : ByteArray) : bs s.data.toList = s := by cases s; simp [bs]
theorem bs_eq {s : ByteArray} {l : Bs} (h : s.data.toList = l) : s = bs l := by rw [← h, bs_of]
theorem bs_ext (l : Bs) (a b : Nat) : (bs l).extract a b = bs ((l.take b).drop a) := by
  apply bs_eq
  rw [Lib.extract_data, bs_data, List.drop_take]
theorem bs_get (l : Bs) (i : Nat) (h : i < (bs l).size) : (bs l)[i] = l[i]'(by rw [bs_size] at h; exact h) := by
  simp [bs, ByteArray.getElem_eq_getElem_data]
theorem bs_head (c : UInt8) (r : Bs) (h : 0 < (bs (c :: r)).size) : (bs (c :: r))[0] = c := by rw [bs_get]; rfl

/-- The reader at block g holds what is left of the text, and whether it is bad. -/
structure Rd (g : Nat) (l : Bs) (bad : Bool) (w : World) : Prop where
  blk : w.heap[g]? = some (.cells #[.string (bs l), .bool bad] 82 (0, 0))
/-- All but block g is as it was. -/
structure But (g : Nat) (w w' : World) : Prop where
  os : w'.os = w.os
  tape : w'.tape = w.tape
  output : w'.output = w.output
  size : w.heap.size ≤ w'.heap.size
  block : ∀ k, k < w.heap.size → k ≠ g → w'.heap[k]? = w.heap[k]?
theorem But.refl (g : Nat) (w : World) : But g w w := ⟨rfl, rfl, rfl, Nat.le_refl _, fun _ _ _ => rfl⟩
theorem But.trans {g : Nat} {a b c : World} (h : But g a b) (k : But g b c) : But g a c :=
  ⟨k.os.trans h.os, k.tape.trans h.tape, k.output.trans h.output, Nat.le_trans h.size k.size, fun i hi hg => (k.block i (Nat.lt_of_lt_of_le hi h.size) hg).trans (h.block i hi hg)⟩
theorem But.of_below {g : Nat} {a b : World} (h : Below a.heap.size a b) : But g a b := ⟨h.os, h.tape, h.output, h.size, fun k hk _ => h.block k hk⟩
theorem But.alloc {g : Nat} {a b : World} (h : But g a b) (o : Obj) : But g a (b.alloc o) := h.trans (But.of_below ((Below.refl _ _).alloc (Nat.le_refl _) o))
theorem But.set {g : Nat} {a b : World} (h : But g a b) (o : Nat) (v : Value) : But g a (b.setCell ⟨g, o, none⟩ v) :=
  ⟨h.os, h.tape, h.output, by simpa [World.setCell] using h.size, fun k hk hg => (Below.heap_setCell b ⟨g, o, none⟩ v k hg).trans (h.block k hk hg)⟩
theorem Rd.lt {g : Nat} {l : Bs} {bad : Bool} {w : World} (h : Rd g l bad w) : g < w.heap.size := by
  have := h.blk
  rcases Nat.lt_or_ge g w.heap.size with h' | h'
  · exact h'
  · rw [Array.getElem?_eq_none h'] at this; cases this
theorem Rd.c0 {g : Nat} {l : Bs} {bad : Bool} {w : World} (h : Rd g l bad w) : w.cell? ⟨g, 0, none⟩ = some (.string (bs l)) := by
  simp [World.cell?, h.blk]
theorem Rd.c1 {g : Nat} {l : Bs} {bad : Bool} {w : World} (h : Rd g l bad w) : w.cell? ⟨g, 1, none⟩ = some (.bool bad) := by
  simp [World.cell?, h.blk]
theorem Rd.f0 {g : Nat} {l : Bs} {bad : Bool} {w : World} (h : Rd g l bad w) : w.frozen? ⟨g, 0, none⟩ = false := by
  simp [World.frozen?, h.blk]
theorem Rd.f1 {g : Nat} {l : Bs} {bad : Bool} {w : World} (h : Rd g l bad w) : w.frozen? ⟨g, 1, none⟩ = false := by
  simp [World.frozen?, h.blk]
theorem Rd.but {g g' : Nat} {l : Bs} {bad : Bool} {w w' : World} (h : Rd g l bad w) (hb : But g' w w') (hg : g ≠ g') : Rd g l bad w' := ⟨(hb.block g h.lt hg).trans h.blk⟩
theorem Rd.below {g : Nat} {l : Bs} {bad : Bool} {w w' : World} (h : Rd g l bad w) (hb : Below w.heap.size w w') : Rd g l bad w' := ⟨(hb.block g h.lt).trans h.blk⟩
theorem Rd.alloc {g : Nat} {l : Bs} {bad : Bool} {w : World} (h : Rd g l bad w) (o : Obj) : Rd g l bad (w.alloc o) := h.below ((Below.refl _ _).alloc (Nat.le_refl _) o)
theorem Rd.set0 {g : Nat} {l l' : Bs} {bad : Bool} {w : World} (h : Rd g l bad w) : Rd g l' bad (w.setCell ⟨g, 0, none⟩ (.string (bs l'))) := by
  refine ⟨?_⟩
  unfold World.setCell
  simp only [Array.getElem?_modify, if_pos rfl, h.blk]
  rfl
theorem Rd.set1 {g : Nat} {l : Bs} {bad bad' : Bool} {w : World} (h : Rd g l bad w) : Rd g l bad' (w.setCell ⟨g, 1, none⟩ (.bool bad')) := by
  refine ⟨?_⟩
  unfold World.setCell
  simp only [Array.getElem?_modify, if_pos rfl, h.blk]
  rfl

def hd (l : Bs) (c : Int) : Bool := match l with | [] => false | d :: _ => ((d.toNat : Int) == c)
def tl (l : Bs) (c : Int) : Bs := if hd l c then l.tail else l
set_option maxHeartbeats 1000000 in
theorem take_any (g : Nat) (l : Bs) (bad : Bool) (c : Int) (w : World) (h : Rd g l bad w) (hl : l.length < 4294967281) :
    Calls Tryz.prog 61 #[.pointer (some ⟨g, 0, none⟩), .int .u8 c] w fun e w' => e = .returned (.bool (hd l c)) ∧ Rd g (tl l c) bad w' ∧ But g w w' := by
  have c0 := h.c0
  have f0 := h.f0
  have HR := Lib.hid h
  clear h
  match l with
  | [] =>
    have k1 : (bs []).toList = [] := bs_toList _
    go_enter Tryz.func61, Tryz.ntmps61
    go_wp2
    go_ret
    exact ⟨rfl, HR.out, But.refl _ _⟩
  | d :: r =>
    have k1 : (bs (d :: r)).toList = d :: r := bs_toList _
    have k2 : 0 < (bs (d :: r)).size := by rw [bs_size]; simp
    have k4 : (1 : Int) ≤ ((bs (d :: r)).size : Int) := by omega
    have k3 := bs_head d r k2
    by_cases hc : (d.toNat : Int) = c
    · have kc : ((d.toNat : Int) != c) = false := by simpa using hc
      have hh : hd (d :: r) c = true := by simpa [hd] using hc
      have ht : tl (d :: r) c = r := by simp [tl, hh]
      have he : (bs (d :: r)).extract 1 (bs (d :: r)).size = bs r := by rw [bs_ext, bs_size]; simp
      rw [hh, ht]
      have HE := Lib.hid he
      clear hc hh ht he
      go_enter Tryz.func61, Tryz.ntmps61
      go_wp2
      go_ret
      refine ⟨rfl, ?_, (But.refl _ _).set _ _⟩
      rw [HE.out]
      exact HR.out.set0
    · have kc : ((d.toNat : Int) != c) = true := by simpa using hc
      have hh : hd (d :: r) c = false := by simpa [hd] using hc
      have ht : tl (d :: r) c = d :: r := by simp [tl, hh]
      rw [hh, ht]
      clear hc hh ht
      go_enter Tryz.func61, Tryz.ntmps61
      go_wp2
      go_ret
      exact ⟨rfl, HR.out, But.refl _ _⟩
end Go.Proofs.YtelgjeeleofgoaaGreatDoor

/- The reader of package field: kinds of signs; as many signs as may be. -/
namespace Go.Proofs.YtelgjeeleofgoaaGreatDoor
open Go.RowKit
set_option linter.unusedSimpArgs false
set_option linter.unusedVariables false

theorem indexByte_dec (l : Bs) (c : UInt8) : decide (0 ≤ Lib.indexByte l c) = l.contains c := by
  have hge := Lib.indexByte_ge l c
  rw [Bool.eq_iff_iff]
  simp only [decide_eq_true_eq, List.contains_iff_exists_mem_beq, beq_iff_eq]
  constructor
  · intro h
    obtain ⟨o, ho⟩ := Int.eq_ofNat_of_zero_le h
    exact ⟨c, List.mem_of_getElem? (Lib.indexByte_some ho).1, rfl⟩
  · rintro ⟨d, hd, rfl⟩
    obtain ⟨k, hk⟩ := List.getElem?_of_mem hd
    by_cases h : Lib.indexByte l c = -1
    · exact absurd hk (Lib.indexByte_none h k)
    · omega
theorem byte_back (c : UInt8) : ((c.toNat : Int).toNat).toUInt8 = c := by simp
set_option maxHeartbeats 1000000 in
theorem small_any (c : UInt8) (w : World) : Calls Tryz.prog 125 #[.int .u8 (c.toNat : Int)] w fun e w' => e = .returned (.bool (FM.small c)) ∧ w = w' := by
  obtain ⟨n, hn⟩ : ∃ n, c.toNat = n := ⟨_, rfl⟩
  have h : FM.small c = decide (97 ≤ n ∧ n ≤ 122) := by rw [← hn]; rfl
  rw [h, hn]
  clear h hn
  by_cases a : 97 ≤ n
  · have hr : ∀ q : Bool, q = decide ((n : Int) ≤ 122) → Ending.returned (.bool q) = .returned (.bool (decide (97 ≤ n ∧ n ≤ 122))) := fun q hq => by
      rw [hq]; exact ret_bool (by rw [decide_eq_decide]; omega)
    have HR := Lib.hid hr
    clear hr
    go_enter Tryz.func125, Tryz.ntmps125
    go_wp2
    all_goals
      go_ret
      exact ⟨HR.out _ rfl, rfl⟩
  · have hr : decide (97 ≤ n ∧ n ≤ 122) = false := by simp; omega
    rw [hr]
    clear hr
    go_enter Tryz.func125, Tryz.ntmps125
    go_wp2
    all_goals
      go_ret
      exact ⟨rfl, rfl⟩
set_option maxHeartbeats 1000000 in
theorem large_any (c : UInt8) (w : World) : Calls Tryz.prog 148 #[.int .u8 (c.toNat : Int)] w fun e w' => e = .returned (.bool (FM.large c)) ∧ w = w' := by
  obtain ⟨n, hn⟩ : ∃ n, c.toNat = n := ⟨_, rfl⟩
  have h : FM.large c = decide (65 ≤ n ∧ n ≤ 90) := by rw [← hn]; rfl
  rw [h, hn]
  clear h hn
  by_cases a : 65 ≤ n
  · have hr : ∀ q : Bool, q = decide ((n : Int) ≤ 90) → Ending.returned (.bool q) = .returned (.bool (decide (65 ≤ n ∧ n ≤ 90))) := fun q hq => by
      rw [hq]; exact ret_bool (by rw [decide_eq_decide]; omega)
    have HR := Lib.hid hr
    clear hr
    go_enter Tryz.func148, Tryz.ntmps148
    go_wp2
    all_goals
      go_ret
      exact ⟨HR.out _ rfl, rfl⟩
  · have hr : decide (65 ≤ n ∧ n ≤ 90) = false := by simp; omega
    rw [hr]
    clear hr
    go_enter Tryz.func148, Tryz.ntmps148
    go_wp2
    all_goals
      go_ret
      exact ⟨rfl, rfl⟩
set_option maxHeartbeats 1000000 in
theorem digit_any (c : UInt8) (w : World) : Calls Tryz.prog 146 #[.int .u8 (c.toNat : Int)] w fun e w' => e = .returned (.bool (FM.digit c)) ∧ w = w' := by
  obtain ⟨n, hn⟩ : ∃ n, c.toNat = n := ⟨_, rfl⟩
  have h : FM.digit c = decide (48 ≤ n ∧ n ≤ 57) := by rw [← hn]; rfl
  rw [h, hn]
  clear h hn
  by_cases a : 48 ≤ n
  · have hr : ∀ q : Bool, q = decide ((n : Int) ≤ 57) → Ending.returned (.bool q) = .returned (.bool (decide (48 ≤ n ∧ n ≤ 57))) := fun q hq => by
      rw [hq]; exact ret_bool (by rw [decide_eq_decide]; omega)
    have HR := Lib.hid hr
    clear hr
    go_enter Tryz.func146, Tryz.ntmps146
    go_wp2
    all_goals
      go_ret
      exact ⟨HR.out _ rfl, rfl⟩
  · have hr : decide (48 ≤ n ∧ n ≤ 57) = false := by simp; omega
    rw [hr]
    clear hr
    go_enter Tryz.func146, Tryz.ntmps146
    go_wp2
    all_goals
      go_ret
      exact ⟨rfl, rfl⟩
theorem index_any (s : ByteArray) (c : UInt8) (w : World) : Calls Tryz.prog 132 #[.string s, .int .u8 (c.toNat : Int)] w fun e w' => e = .returned (.int .i64 (Lib.indexByte s.data.toList c)) ∧ w = w' := by
  refine (Tryz.strings_IndexByte s (c.toNat : Int) w).mono ?_
  rintro e w' ⟨rfl, rfl⟩
  rw [byte_back]
  exact ⟨rfl, rfl⟩
set_option maxHeartbeats 1000000 in
theorem inKey_any (c : UInt8) (w : World) : Calls Tryz.prog 124 #[.int .u8 (c.toNat : Int)] w fun e w' => e = .returned (.bool (FM.inKey c)) ∧ w = w' := by
  obtain ⟨n, hn⟩ : ∃ n : Int, (c.toNat : Int) = n := ⟨_, rfl⟩
  have hS := fun W => small_any c W
  have hD := fun W => digit_any c W
  have hX := fun W => index_any ⟨#[95, 45, 46, 42]⟩ c W
  have hi : decide (0 ≤ Lib.indexByte (⟨#[95, 45, 46, 42]⟩ : ByteArray).data.toList c) = [95, 45, 46, 42].contains c := indexByte_dec _ _
  have hge := Lib.indexByte_ge (⟨#[95, 45, 46, 42]⟩ : ByteArray).data.toList c
  have hk : FM.inKey c = (FM.small c || FM.digit c || [95, 45, 46, 42].contains c) := rfl
  rw [← hi] at hk
  clear hi
  rw [hk]
  rw [hn] at hS hD hX ⊢
  generalize Lib.indexByte (⟨#[95, 45, 46, 42]⟩ : ByteArray).data.toList c = x at *
  clear hk hn
  generalize FM.small c = a at *
  generalize FM.digit c = b at *
  have HS := Lib.hid hS
  have HD := Lib.hid hD
  have HX := Lib.hid hX
  clear hS hD hX
  cases a <;> cases b
  all_goals
    simp only [Bool.or_true, Bool.true_or, Bool.or_false, Bool.false_or]
    have hr : ∀ q : Bool, q = decide (0 ≤ x) → Ending.returned (.bool q) = .returned (.bool (decide (0 ≤ x))) := fun q hq => by rw [hq]
    have HR := Lib.hid hr
    clear hr
    go_enter Tryz.func124, Tryz.ntmps124
    go_wp2_with first | (go_at_call 125; refine (HS.out _).mono ?_; rintro e w' ⟨rfl, rfl⟩) | (go_at_call 146; refine (HD.out _).mono ?_; rintro e w' ⟨rfl, rfl⟩) | (go_at_call 132; refine (HX.out _).mono ?_; rintro e w' ⟨rfl, rfl⟩)
    all_goals
      go_ret
      first | exact ⟨rfl, rfl⟩ | exact ⟨HR.out _ rfl, rfl⟩
set_option maxHeartbeats 1000000 in
theorem inWord_any (c : UInt8) (w : World) : Calls Tryz.prog 149 #[.int .u8 (c.toNat : Int)] w fun e w' => e = .returned (.bool (FM.inWord c)) ∧ w = w' := by
  obtain ⟨n, hn⟩ : ∃ n : Int, (c.toNat : Int) = n := ⟨_, rfl⟩
  have hS := fun W => inKey_any c W
  have hD := fun W => large_any c W
  have hX := fun W => index_any ⟨#[33, 35, 36, 37, 38, 39, 43, 94, 124, 126, 58, 47]⟩ c W
  have hi : decide (0 ≤ Lib.indexByte (⟨#[33, 35, 36, 37, 38, 39, 43, 94, 124, 126, 58, 47]⟩ : ByteArray).data.toList c) = [33, 35, 36, 37, 38, 39, 43, 94, 124, 126, 58, 47].contains c := indexByte_dec _ _
  have hge := Lib.indexByte_ge (⟨#[33, 35, 36, 37, 38, 39, 43, 94, 124, 126, 58, 47]⟩ : ByteArray).data.toList c
  have hk : FM.inWord c = (FM.inKey c || FM.large c || [33, 35, 36, 37, 38, 39, 43, 94, 124, 126, 58, 47].contains c) := rfl
  rw [← hi] at hk
  clear hi
  rw [hk]
  rw [hn] at hS hD hX ⊢
  generalize Lib.indexByte (⟨#[33, 35, 36, 37, 38, 39, 43, 94, 124, 126, 58, 47]⟩ : ByteArray).data.toList c = x at *
  clear hk hn
  generalize FM.inKey c = a at *
  generalize FM.large c = b at *
  have HS := Lib.hid hS
  have HD := Lib.hid hD
  have HX := Lib.hid hX
  clear hS hD hX
  cases a <;> cases b
  all_goals
    simp only [Bool.or_true, Bool.true_or, Bool.or_false, Bool.false_or]
    have hr : ∀ q : Bool, q = decide (0 ≤ x) → Ending.returned (.bool q) = .returned (.bool (decide (0 ≤ x))) := fun q hq => by rw [hq]
    have HR := Lib.hid hr
    clear hr
    go_enter Tryz.func149, Tryz.ntmps149
    go_wp2_with first | (go_at_call 124; refine (HS.out _).mono ?_; rintro e w' ⟨rfl, rfl⟩) | (go_at_call 148; refine (HD.out _).mono ?_; rintro e w' ⟨rfl, rfl⟩) | (go_at_call 132; refine (HX.out _).mono ?_; rintro e w' ⟨rfl, rfl⟩)
    all_goals
      go_ret
      first | exact ⟨rfl, rfl⟩ | exact ⟨HR.out _ rfl, rfl⟩

/-- How many signs may be. -/
def run (p : UInt8 → Bool) (l : Bs) : Nat := (l.takeWhile p).length
theorem run_le (p : UInt8 → Bool) (l : Bs) : run p l ≤ l.length := FM.takeWhile_le p l
theorem run_at (p : UInt8 → Bool) : ∀ (l : Bs) (k : Nat) (h : k < l.length), k ≤ run p l → (p l[k] = true → k + 1 ≤ run p l) ∧ (p l[k] = false → k = run p l)
  | c :: r, 0, h, _ => by
    constructor
    · intro hp; simp at hp; simp [run, List.takeWhile_cons, hp]
    · intro hp; simp at hp; simp [run, List.takeWhile_cons, hp]
  | c :: r, k + 1, h, hk => by
    have hc : p c = true := by
      cases hp : p c with
      | true => rfl
      | false => simp [run, List.takeWhile_cons, hp] at hk
    have e : run p (c :: r) = run p r + 1 := by simp [run, List.takeWhile_cons, hc]
    have := run_at p r k (by simpa using h) (by omega)
    constructor
    · intro hp; have := this.1 (by simpa using hp); omega
    · intro hp; have := this.2 (by simpa using hp); omega
theorem take_run (p : UInt8 → Bool) (l : Bs) : l.take (run p l) = l.takeWhile p := by
  induction l with
  | nil => rfl
  | cons c r ih =>
    cases hp : p c with
    | true => simp [run, List.takeWhile_cons, hp]; exact ih
    | false => simp [run, List.takeWhile_cons, hp]
theorem drop_run (p : UInt8 → Bool) (l : Bs) : l.drop (run p l) = l.dropWhile p := by
  induction l with
  | nil => rfl
  | cons c r ih =>
    cases hp : p c with
    | true => simp [run, List.takeWhile_cons, List.dropWhile_cons, hp]; exact ih
    | false => simp [run, List.takeWhile_cons, List.dropWhile_cons, hp]
end Go.Proofs.YtelgjeeleofgoaaGreatDoor

/- The reader of package field: as many signs as may be. Printed by wip/gen_span.py. -/
namespace Go.Proofs.YtelgjeeleofgoaaGreatDoor
open Go.RowKit
set_option linter.unusedSimpArgs false
set_option linter.unusedVariables false

set_option maxHeartbeats 2000000 in
theorem span_inKey (g : Nat) (l : Bs) (bad : Bool) (w : World) (h : Rd g l bad w) (hl : l.length < 4294967281) :
    Calls Tryz.prog 123 #[.pointer (some ⟨g, 0, none⟩), .func (.func 124) #[] #[]] w fun e w' => e = .returned (.string (bs (l.takeWhile FM.inKey))) ∧ Rd g (l.dropWhile FM.inKey) bad w' ∧ But g w w' := by
  have c0 := h.c0
  have f0 := h.f0
  have HR := Lib.hid h
  clear h
  have hsz : (bs l).size = l.length := bs_size l
  have hs8 : (bs l).size ≤ 4294967281 := by omega
  have HL := Lib.hid hsz
  have hT : bs (l.takeWhile FM.inKey) = (bs l).extract 0 (run FM.inKey l) := by rw [bs_ext, List.drop_zero, take_run]
  have hD : bs (l.dropWhile FM.inKey) = (bs l).extract (run FM.inKey l) (bs l).size := by rw [bs_ext, hsz, List.take_of_length_le (Nat.le_refl _), drop_run]
  have hr := run_le FM.inKey l
  have hr8 : run FM.inKey l ≤ (bs l).size := by omega
  rw [hT]
  have HD := Lib.hid hD
  have hA := run_at FM.inKey l
  have HA := Lib.hid hA
  clear hsz hT hD hA hr
  obtain ⟨m, hm⟩ : ∃ m, run FM.inKey l = m := ⟨_, rfl⟩
  rw [hm] at hr8 ⊢
  have HM := Lib.hid hm
  clear hm
  go_enter Tryz.func123, Tryz.ntmps123
  go_wp2
  go_loop [5] (fun n => ∃ k : Nat, k ≤ m ∧ n = .int .i64 k) (fun n => (bs l).size - (intOf n).toNat)
  case atStart => exact ⟨0, Nat.zero_le _, rfl⟩
  case round =>
    obtain ⟨k, hk, rfl⟩ := hrel
    by_cases hlt : k < (bs l).size
    · have hll : k < l.length := by have := HL.out; omega
      have hg := bs_get l k hlt
      have hA := HA.out k hll (by have := HM.out; omega)
      rw [HM.out] at hA
      cases hp : FM.inKey l[k] with
      | true =>
        have hA1 := hA.1 hp
        have HC : Hid (∀ W, Calls Tryz.prog 124 #[.int .u8 (l[k].toNat : Int)] W fun e w' => e = .returned (.bool true) ∧ W = w') := Lib.hid fun W => by
          have := inKey_any l[k] W; rw [hp] at this; exact this
        clear hA hp
        go_wp2_with (go_at_call 124; refine (HC.out _).mono ?_; rintro e w' ⟨rfl, rfl⟩)
        go_round
        case rel => exact ⟨k + 1, hA1, by go_num⟩
        case measure => simp [intOf]; omega
      | false =>
        have hA1 := hA.2 hp
        have HC : Hid (∀ W, Calls Tryz.prog 124 #[.int .u8 (l[k].toNat : Int)] W fun e w' => e = .returned (.bool false) ∧ W = w') := Lib.hid fun W => by
          have := inKey_any l[k] W; rw [hp] at this; exact this
        clear hA hp
        subst hA1
        go_wp2_with (go_at_call 124; refine (HC.out _).mono ?_; rintro e w' ⟨rfl, rfl⟩)
        go_ret
        refine ⟨rfl, ?_, (But.refl _ _).set _ _⟩
        have := HD.out; rw [HM.out] at this; rw [← this]
        exact HR.out.set0
    · obtain rfl : k = m := by have := HL.out; omega
      go_wp2
      go_ret
      refine ⟨rfl, ?_, (But.refl _ _).set _ _⟩
      have := HD.out; rw [HM.out] at this; rw [← this]
      exact HR.out.set0

set_option maxHeartbeats 2000000 in
theorem span_inWord (g : Nat) (l : Bs) (bad : Bool) (w : World) (h : Rd g l bad w) (hl : l.length < 4294967281) :
    Calls Tryz.prog 123 #[.pointer (some ⟨g, 0, none⟩), .func (.func 149) #[] #[]] w fun e w' => e = .returned (.string (bs (l.takeWhile FM.inWord))) ∧ Rd g (l.dropWhile FM.inWord) bad w' ∧ But g w w' := by
  have c0 := h.c0
  have f0 := h.f0
  have HR := Lib.hid h
  clear h
  have hsz : (bs l).size = l.length := bs_size l
  have hs8 : (bs l).size ≤ 4294967281 := by omega
  have HL := Lib.hid hsz
  have hT : bs (l.takeWhile FM.inWord) = (bs l).extract 0 (run FM.inWord l) := by rw [bs_ext, List.drop_zero, take_run]
  have hD : bs (l.dropWhile FM.inWord) = (bs l).extract (run FM.inWord l) (bs l).size := by rw [bs_ext, hsz, List.take_of_length_le (Nat.le_refl _), drop_run]
  have hr := run_le FM.inWord l
  have hr8 : run FM.inWord l ≤ (bs l).size := by omega
  rw [hT]
  have HD := Lib.hid hD
  have hA := run_at FM.inWord l
  have HA := Lib.hid hA
  clear hsz hT hD hA hr
  obtain ⟨m, hm⟩ : ∃ m, run FM.inWord l = m := ⟨_, rfl⟩
  rw [hm] at hr8 ⊢
  have HM := Lib.hid hm
  clear hm
  go_enter Tryz.func123, Tryz.ntmps123
  go_wp2
  go_loop [5] (fun n => ∃ k : Nat, k ≤ m ∧ n = .int .i64 k) (fun n => (bs l).size - (intOf n).toNat)
  case atStart => exact ⟨0, Nat.zero_le _, rfl⟩
  case round =>
    obtain ⟨k, hk, rfl⟩ := hrel
    by_cases hlt : k < (bs l).size
    · have hll : k < l.length := by have := HL.out; omega
      have hg := bs_get l k hlt
      have hA := HA.out k hll (by have := HM.out; omega)
      rw [HM.out] at hA
      cases hp : FM.inWord l[k] with
      | true =>
        have hA1 := hA.1 hp
        have HC : Hid (∀ W, Calls Tryz.prog 149 #[.int .u8 (l[k].toNat : Int)] W fun e w' => e = .returned (.bool true) ∧ W = w') := Lib.hid fun W => by
          have := inWord_any l[k] W; rw [hp] at this; exact this
        clear hA hp
        go_wp2_with (go_at_call 149; refine (HC.out _).mono ?_; rintro e w' ⟨rfl, rfl⟩)
        go_round
        case rel => exact ⟨k + 1, hA1, by go_num⟩
        case measure => simp [intOf]; omega
      | false =>
        have hA1 := hA.2 hp
        have HC : Hid (∀ W, Calls Tryz.prog 149 #[.int .u8 (l[k].toNat : Int)] W fun e w' => e = .returned (.bool false) ∧ W = w') := Lib.hid fun W => by
          have := inWord_any l[k] W; rw [hp] at this; exact this
        clear hA hp
        subst hA1
        go_wp2_with (go_at_call 149; refine (HC.out _).mono ?_; rintro e w' ⟨rfl, rfl⟩)
        go_ret
        refine ⟨rfl, ?_, (But.refl _ _).set _ _⟩
        have := HD.out; rw [HM.out] at this; rw [← this]
        exact HR.out.set0
    · obtain rfl : k = m := by have := HL.out; omega
      go_wp2
      go_ret
      refine ⟨rfl, ?_, (But.refl _ _).set _ _⟩
      have := HD.out; rw [HM.out] at this; rw [← this]
      exact HR.out.set0

set_option maxHeartbeats 2000000 in
theorem span_digit (g : Nat) (l : Bs) (bad : Bool) (w : World) (h : Rd g l bad w) (hl : l.length < 4294967281) :
    Calls Tryz.prog 123 #[.pointer (some ⟨g, 0, none⟩), .func (.func 146) #[] #[]] w fun e w' => e = .returned (.string (bs (l.takeWhile FM.digit))) ∧ Rd g (l.dropWhile FM.digit) bad w' ∧ But g w w' := by
  have c0 := h.c0
  have f0 := h.f0
  have HR := Lib.hid h
  clear h
  have hsz : (bs l).size = l.length := bs_size l
  have hs8 : (bs l).size ≤ 4294967281 := by omega
  have HL := Lib.hid hsz
  have hT : bs (l.takeWhile FM.digit) = (bs l).extract 0 (run FM.digit l) := by rw [bs_ext, List.drop_zero, take_run]
  have hD : bs (l.dropWhile FM.digit) = (bs l).extract (run FM.digit l) (bs l).size := by rw [bs_ext, hsz, List.take_of_length_le (Nat.le_refl _), drop_run]
  have hr := run_le FM.digit l
  have hr8 : run FM.digit l ≤ (bs l).size := by omega
  rw [hT]
  have HD := Lib.hid hD
  have hA := run_at FM.digit l
  have HA := Lib.hid hA
  clear hsz hT hD hA hr
  obtain ⟨m, hm⟩ : ∃ m, run FM.digit l = m := ⟨_, rfl⟩
  rw [hm] at hr8 ⊢
  have HM := Lib.hid hm
  clear hm
  go_enter Tryz.func123, Tryz.ntmps123
  go_wp2
  go_loop [5] (fun n => ∃ k : Nat, k ≤ m ∧ n = .int .i64 k) (fun n => (bs l).size - (intOf n).toNat)
  case atStart => exact ⟨0, Nat.zero_le _, rfl⟩
  case round =>
    obtain ⟨k, hk, rfl⟩ := hrel
    by_cases hlt : k < (bs l).size
    · have hll : k < l.length := by have := HL.out; omega
      have hg := bs_get l k hlt
      have hA := HA.out k hll (by have := HM.out; omega)
      rw [HM.out] at hA
      cases hp : FM.digit l[k] with
      | true =>
        have hA1 := hA.1 hp
        have HC : Hid (∀ W, Calls Tryz.prog 146 #[.int .u8 (l[k].toNat : Int)] W fun e w' => e = .returned (.bool true) ∧ W = w') := Lib.hid fun W => by
          have := digit_any l[k] W; rw [hp] at this; exact this
        clear hA hp
        go_wp2_with (go_at_call 146; refine (HC.out _).mono ?_; rintro e w' ⟨rfl, rfl⟩)
        go_round
        case rel => exact ⟨k + 1, hA1, by go_num⟩
        case measure => simp [intOf]; omega
      | false =>
        have hA1 := hA.2 hp
        have HC : Hid (∀ W, Calls Tryz.prog 146 #[.int .u8 (l[k].toNat : Int)] W fun e w' => e = .returned (.bool false) ∧ W = w') := Lib.hid fun W => by
          have := digit_any l[k] W; rw [hp] at this; exact this
        clear hA hp
        subst hA1
        go_wp2_with (go_at_call 146; refine (HC.out _).mono ?_; rintro e w' ⟨rfl, rfl⟩)
        go_ret
        refine ⟨rfl, ?_, (But.refl _ _).set _ _⟩
        have := HD.out; rw [HM.out] at this; rw [← this]
        exact HR.out.set0
    · obtain rfl : k = m := by have := HL.out; omega
      go_wp2
      go_ret
      refine ⟨rfl, ?_, (But.refl _ _).set _ _⟩
      have := HD.out; rw [HM.out] at this; rw [← this]
      exact HR.out.set0
end Go.Proofs.YtelgjeeleofgoaaGreatDoor
