-- A copy of the text YthipdgnbpdngpaaDoorSx0 with what this claim does not reach left out (prune.py, a program of this project).
import Derived.Test.YthipdgnbpdngpaaDoorProg
import Derived.Below
import Derived.Deep.Draws
import Derived.Deep.AppendLies
import Derived.Maps.AppendAt
import Derived.OwnWalk
import Derived.Laws.BytesArg
import Derived.Laws.MakeOwn
import Derived.Laws.OwnMore
import Derived.Deep.OwnRows
import Derived.Tactics
import Derived.Lib.ConvBytes
import Derived.Laws.Slices
import Derived.WalkKit
import Derived.KernelRfl
import Derived.RowKit3
import Derived.Deep.LoopGhost
import Derived.Deep.QuietTactic
import Derived.BigQuiet
import Derived.WideLaws
import Derived.Deep.DeepCutAuto
import Derived.Deep.CutBlock
import Derived.Deep.RegionHeld3
import Derived.Laws.Rows
import Derived.Lib.AppendStr
import Derived.ArgAppend
import Derived.Laws.IdiomCopy
import Derived.OrdersHeld
import Derived.Laws.BitsLemmas
import Derived.RowKit
import Derived.Test.YthipdgnbpdngpaaDoorZpWWords
import Derived.Test.YthipdgnbpdngpaaDoorZpWLast
import Derived.Test.YthipdgnbpdngpaaDoorZpWTab
import Derived.Test.YthipdgnbpdngpaaDoorZpWApart
import Derived.Test.YthipdgnbpdngpaaDoorZpWFoot
import Derived.Test.YthipdgnbpdngpaaDoorZpWKept
import Derived.Test.YthipdgnbpdngpaaDoorZpWShare
import Derived.Test.YthipdgnbpdngpaaDoorZpWN
import Derived.Laws.StructEq
import Derived.Test.YthipdgnbpdngpaaDoorZpWRepsOne
import Derived.Test.YthipdgnbpdngpaaDoorZpWInv
import Derived.Test.YthipdgnbpdngpaaDoorZpWGuard
import Derived.Test.YthipdgnbpdngpaaDoorZpWNEv
import Derived.Test.YthipdgnbpdngpaaDoorZpWMore
namespace Go.Proofs.YthipdgnbpdngpaaDoor.S
open Go.RowKit Go.Proofs.YthipdgnbpdngpaaDoor Go.Proofs.YthipdgnbpdngpaaDoorW.PrintWords Go.Proofs.YthipdgnbpdngpaaDoorW.PrintLast Go.Proofs.YthipdgnbpdngpaaDoorW.PrintMore
attribute [local go_sem] max2_int min2_int max_two min_two max_three min_three max_four min_four   -- for this text's walks alone
set_option linter.unusedVariables false
set_option linter.unusedSimpArgs false
def errW : Option Int → Value
  | none => .nilIface
  | some c => .iface 0 (.int .i64 c)
theorem errW_none : errW none = .nilIface := rfl
theorem errW_some (c : Int) : errW (some c) = .iface 0 (.int .i64 c) := rfl
theorem info3 : (Tryd.prog.info? 3).map (fun i => (i.zero, i.size, i.bytes)) = some (some (.int .i64 0), 1, 8) := by kernel_rfl
theorem info5 : (Tryd.prog.info? 5).map (fun i => (i.zero, i.size, i.bytes)) = some (some (.int .u8 0), 1, 1) := by kernel_rfl
theorem info21 : (Tryd.prog.info? 21).map (fun i => (i.zero, i.size, i.bytes)) = some (some (.int .i32 0), 1, 4) := by kernel_rfl
theorem info62 : (Tryd.prog.info? 62).map (fun i => (i.zero, i.size, i.bytes)) = some (some (.agg #[(.int .i64 0), (.int .i32 0), (.int .i64 0), (.int .i64 0), (.slice none 0 0), (.int .i64 0), (.string ⟨#[]⟩)]), 7, 80) := by kernel_rfl
structure S52 where
  f0 : Int
  f1 : Int
  f2 : (List Int)
  f3 : Int
  f4 : ByteArray
  f5 : ByteArray
structure S62 where
  f0 : Int
  f1 : Int
  f2 : Int
  f3 : Int
  f4 : (List Int)
  f5 : Int
  f6 : ByteArray
def z62 : S62 := ⟨(0 : Int), (0 : Int), (0 : Int), (0 : Int), ([] : List Int), (0 : Int), (⟨#[]⟩ : ByteArray)⟩
def k62 : Kd S62 := Kd.iso (Kd.pair (Kd.int .i64) (Kd.pair (Kd.int .i32) (Kd.pair (Kd.int .i64) (Kd.pair (Kd.int .i64) (Kd.pair (Kd.slice 3 (Kd.int .i64)) (Kd.pair (Kd.int .i64) Kd.string)))))) (fun x : S62 => (x.f0, x.f1, x.f2, x.f3, x.f4, x.f5, x.f6))
theorem k62_open {w : World} {x : S62} {cs : List Value} (h : k62.K w x cs) : ∃ A4 c4, cs = [.int .i64 x.f0, .int .i32 x.f1, .int .i64 x.f2, .int .i64 x.f3, .slice A4 x.f4.length c4, .int .i64 x.f5, .string x.f6] ∧ x.f4.length ≤ c4 ∧ (Kd.int .i64).C w A4 x.f4.length x.f4 := by
  obtain ⟨_, _, rfl, rfl, ⟨_, _, rfl, rfl, ⟨_, _, rfl, rfl, ⟨_, _, rfl, rfl, ⟨_, _, rfl, ⟨A4, c4, rfl, l4, g4⟩, ⟨_, _, rfl, rfl, rfl⟩⟩⟩⟩⟩⟩ := h
  exact ⟨A4, c4, rfl, l4, g4⟩
theorem k62_mk (w : World) (x : S62) {A4 : Option Addr} {c4 : Nat} (l4 : x.f4.length ≤ c4) (g4 : (Kd.int .i64).C w A4 x.f4.length x.f4) : k62.K w x [.int .i64 x.f0, .int .i32 x.f1, .int .i64 x.f2, .int .i64 x.f3, .slice A4 x.f4.length c4, .int .i64 x.f5, .string x.f6] := ⟨[.int .i64 x.f0], [.int .i32 x.f1, .int .i64 x.f2, .int .i64 x.f3, .slice A4 x.f4.length c4, .int .i64 x.f5, .string x.f6], rfl, rfl, ⟨[.int .i32 x.f1], [.int .i64 x.f2, .int .i64 x.f3, .slice A4 x.f4.length c4, .int .i64 x.f5, .string x.f6], rfl, rfl, ⟨[.int .i64 x.f2], [.int .i64 x.f3, .slice A4 x.f4.length c4, .int .i64 x.f5, .string x.f6], rfl, rfl, ⟨[.int .i64 x.f3], [.slice A4 x.f4.length c4, .int .i64 x.f5, .string x.f6], rfl, rfl, ⟨[.slice A4 x.f4.length c4], [.int .i64 x.f5, .string x.f6], rfl, ⟨A4, c4, rfl, l4, g4⟩, ⟨[.int .i64 x.f5], [.string x.f6], rfl, rfl, rfl⟩⟩⟩⟩⟩⟩
theorem k62_openF {W : World} {ok : Nat → Prop} {x : S62} {cs : List Value} (h : Kd.FK k62 W ok x cs) : ∃ A4 c4, cs = [.int .i64 x.f0, .int .i32 x.f1, .int .i64 x.f2, .int .i64 x.f3, .slice A4 x.f4.length c4, .int .i64 x.f5, .string x.f6] ∧ x.f4.length ≤ c4 ∧ Kd.F (Kd.int .i64) W ok A4 x.f4.length x.f4 := by
  obtain ⟨A4, c4, rfl, l4, _⟩ := k62_open (Kd.FK_now h)
  exact ⟨A4, c4, rfl, l4, (fun W' hW => by obtain ⟨A4_, c4_, he, l4_, g4_⟩ := k62_open (h W' hW); injection (Option.some.inj (show some (Value.slice A4 x.f4.length c4) = some (Value.slice A4_ x.f4.length c4_) from congrArg (fun l => l[4]?) he)) with ha_ _ _; rw [ha_]; exact g4_)⟩
theorem k62_mkF (W : World) (ok : Nat → Prop) (x : S62) {A4 : Option Addr} {c4 : Nat} (l4 : x.f4.length ≤ c4) (g4 : Kd.F (Kd.int .i64) W ok A4 x.f4.length x.f4) : Kd.FK k62 W ok x [.int .i64 x.f0, .int .i32 x.f1, .int .i64 x.f2, .int .i64 x.f3, .slice A4 x.f4.length c4, .int .i64 x.f5, .string x.f6] := fun W2 hW => k62_mk W2 x l4 (g4 W2 hW)
def rd_T62 (xs : List S62) (i : Int) : S62 := xs.getD i.toNat z62
theorem at_T62 {w : World} {A : Option Addr} {n : Nat} {xs : List S62} (h : Kd.C k62 w A n xs) (i : Int) (h0 : 0 ≤ i) (h1 : i < n) : ∃ ad A4 c4, A = some ad ∧ w.cell? (ad.add (i.toNat * 7)) = some (.int .i64 (rd_T62 xs i).f0) ∧ w.cell? ⟨(ad.add (i.toNat * 7)).block, (ad.add (i.toNat * 7)).off + 1, none⟩ = some (.int .i32 (rd_T62 xs i).f1) ∧ w.cell? ⟨(ad.add (i.toNat * 7)).block, (ad.add (i.toNat * 7)).off + 2, none⟩ = some (.int .i64 (rd_T62 xs i).f2) ∧ w.cell? ⟨(ad.add (i.toNat * 7)).block, (ad.add (i.toNat * 7)).off + 3, none⟩ = some (.int .i64 (rd_T62 xs i).f3) ∧ w.cell? ⟨(ad.add (i.toNat * 7)).block, (ad.add (i.toNat * 7)).off + 4, none⟩ = some (.slice A4 (rd_T62 xs i).f4.length c4) ∧ w.cell? ⟨(ad.add (i.toNat * 7)).block, (ad.add (i.toNat * 7)).off + 5, none⟩ = some (.int .i64 (rd_T62 xs i).f5) ∧ w.cell? ⟨(ad.add (i.toNat * 7)).block, (ad.add (i.toNat * 7)).off + 6, none⟩ = some (.string (rd_T62 xs i).f6) ∧ (rd_T62 xs i).f4.length ≤ c4 ∧ (Kd.int .i64).C w A4 (rd_T62 xs i).f4.length (rd_T62 xs i).f4 := by
  obtain ⟨ad, c, e, _, hK, hc0⟩ := Kd.C_get h z62 i h0 h1
  have hc : ∀ j u, c[j]? = some u → w.cell? (ad.add (i.toNat * 7 + j)) = some u := hc0
  obtain ⟨A4, c4, rfl, l4, g4⟩ := k62_open hK
  exact ⟨ad, A4, c4, e, hc 0 _ rfl, by rw [← add_field _ _ 1 (by omega)]; exact hc 1 _ rfl, by rw [← add_field _ _ 2 (by omega)]; exact hc 2 _ rfl, by rw [← add_field _ _ 3 (by omega)]; exact hc 3 _ rfl, by rw [← add_field _ _ 4 (by omega)]; exact hc 4 _ rfl, by rw [← add_field _ _ 5 (by omega)]; exact hc 5 _ rfl, by rw [← add_field _ _ 6 (by omega)]; exact hc 6 _ rfl, l4, g4⟩
end Go.Proofs.YthipdgnbpdngpaaDoor.S
