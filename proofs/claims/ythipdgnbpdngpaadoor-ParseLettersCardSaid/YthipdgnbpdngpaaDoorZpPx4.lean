-- Copies of the texts YthipdgnbpdngpaaDoorGBegins, YthipdgnbpdngpaaDoorPx4 with what this claim does not reach left out (prune.py, a program of this project).
import Derived.Test.YthipdgnbpdngpaaDoorZpGBytes
import Derived.Test.YthipdgnbpdngpaaDoorZpPx3
import Derived.Lib.AtoiErrMem
import Derived.Deep.DeepMust
import Derived.Test.YthipdgnbpdngpaaDoorZpPx0
import Derived.Test.YthipdgnbpdngpaaDoorZpGText
section
namespace Go.Proofs.YthipdgnbpdngpaaDoor
open Go.RowKit Go.Lib Go.Proofs.YthipdgnbpdngpaaDoorW.PrintWords Go.Proofs.YthipdgnbpdngpaaDoorW.PrintLast Go.Proofs.YthipdgnbpdngpaaDoor.P
/-- From place k on all bytes but the first may stand behind a first one. -/
def contFrom (s : ByteArray) (k : Nat) : Bool := (List.range s.size).all fun j => decide (j < k) || (decide (128 ≤ bt s (j : Int)) && decide (bt s (j : Int) ≤ 191))
def padB (s : ByteArray) (n : Nat) (c : Int) : ByteArray := strOfNums (bytesOf s ++ List.replicate (n - s.size) c)
def floorZ (n : Int) : Int := rd [0, 0, 128, 2048, 65536] n
def endsB (lo hi fl : Int) : Bool := !(decide (hi < fl) || decide (lo > 1114111)) && (decide (lo < 55296) || decide (hi > 57343))
def backseatref01_begins.f (a0 : ByteArray) (a1 : Int) : Option Bool :=
  if 1 ≤ a1 ∧ a1 ≤ 4 then
    (if (a0.size : Int) > a1 then some false else if contFrom a0 1 = false then some false else
      (backseatref01_value.f 10 (padB a0 a1.toNat 128)).bind fun lo => (backseatref01_value.f 10 (padB a0 a1.toNat 191)).bind fun hi => some (endsB lo hi (floorZ a1)))
  else none
end Go.Proofs.YthipdgnbpdngpaaDoor
end
section
namespace Go.Proofs.YthipdgnbpdngpaaDoor.P
open Go.RowKit Go.Proofs.YthipdgnbpdngpaaDoor Go.Proofs.YthipdgnbpdngpaaDoorW.PrintWords Go.Proofs.YthipdgnbpdngpaaDoorW.PrintLast Go.Proofs.YthipdgnbpdngpaaDoorW.PrintMore
attribute [local go_sem] max2_int min2_int max_two min_two max_three min_three max_four min_four   -- for this text's walks alone
set_option linter.unusedVariables false
set_option linter.unusedSimpArgs false
mutual
def backseatref01_First.j1 : Nat → ByteArray → Int → Int → Option (Int × Int × Int)
  | 0, _, _, _ => none
  | k + 1, x0, x3, x4 => if x4 = x3 then (if 0 ≤ x3 then (if x3 ≤ (x0.size : Int) then ((backseatref01_value.f k (x0.extract 0 (x3 : Int).toNat)).bind fun t112 => (some (t112, x3, 0))) else (none)) else (none)) else (if x4 = (x0.size : Int) then (some (0, 0, 2)) else (some (0, x4, 4)))
def backseatref01_First.l0 : Nat → ByteArray → Int → Int → Option (Int × Int × Int)
  | 0, _, _, _ => none
  | k + 1, x0, x3, x4 => if x4 < x3 then (if x4 < (x0.size : Int) then (if 0 ≤ (wrap64 (x4 + 1)) then (if (wrap64 (x4 + 1)) ≤ (x0.size : Int) then ((backseatref01_begins.f (x0.extract 0 ((wrap64 (x4 + 1)) : Int).toNat) x3).bind fun t111 => (if t111 = true then (backseatref01_First.l0 k x0 x3 (wrap64 (x4 + 1))) else (backseatref01_First.j1 k x0 x3 x4))) else (none)) else (none)) else (backseatref01_First.j1 k x0 x3 x4)) else (backseatref01_First.j1 k x0 x3 x4)
end
def backseatref01_First.f (k : Nat) (a0 : ByteArray) : Option (Int × Int × Int) := if (a0.size : Int) = 0 then (some (0, 0, 2)) else (if 0 < (a0.size : Int) then ((backseatref01_need.f k (bt a0 0)).bind fun t110 => (if t110 = 0 then (some (0, 1, 4)) else (backseatref01_First.l0 k a0 t110 1))) else (none))
theorem backseatref01_First.mono_l : ∀ k, (∀ y0 y1 y2, LeO (backseatref01_First.j1 k y0 y1 y2) (backseatref01_First.j1 (k + 1) y0 y1 y2)) ∧ (∀ y0 y1 y2, LeO (backseatref01_First.l0 k y0 y1 y2) (backseatref01_First.l0 (k + 1) y0 y1 y2))
  | 0 => ⟨fun _ _ _ r h => by simp [backseatref01_First.j1] at h, fun _ _ _ r h => by simp [backseatref01_First.l0] at h⟩
  | k + 1 => by
    obtain ⟨ih0, ih1⟩ := backseatref01_First.mono_l k
    refine ⟨?_, ?_⟩
    · intro y0 y1 y2
      unfold backseatref01_First.j1
      repeat' first
      | (with_reducible exact ih0 _ _ _)
      | (with_reducible exact ih1 _ _ _)
      | (with_reducible exact backseatref01_need.mono _ _)
      | (with_reducible exact backseatref01_value.mono _ _)
      | (with_reducible exact LeO.refl _)
      | (with_reducible exact LeO.none _)
      | (with_reducible refine LeO.ite ?_ ?_)
      | (with_reducible refine LeO.bind ?_ (fun _ => ?_))
      | exact ih0 _ _ _
      | exact ih1 _ _ _
      | exact backseatref01_need.mono _ _
      | exact backseatref01_value.mono _ _
      | exact LeO.none _
      | refine LeO.ite ?_ ?_
      | refine LeO.bind ?_ (fun _ => ?_)
    · intro y0 y1 y2
      unfold backseatref01_First.l0
      repeat' first
      | (with_reducible exact ih0 _ _ _)
      | (with_reducible exact ih1 _ _ _)
      | (with_reducible exact backseatref01_need.mono _ _)
      | (with_reducible exact backseatref01_value.mono _ _)
      | (with_reducible exact LeO.refl _)
      | (with_reducible exact LeO.none _)
      | (with_reducible refine LeO.ite ?_ ?_)
      | (with_reducible refine LeO.bind ?_ (fun _ => ?_))
      | exact ih0 _ _ _
      | exact ih1 _ _ _
      | exact backseatref01_need.mono _ _
      | exact backseatref01_value.mono _ _
      | exact LeO.none _
      | refine LeO.ite ?_ ?_
      | refine LeO.bind ?_ (fun _ => ?_)
theorem backseatref01_First.mono : ∀ a0 k, LeO (backseatref01_First.f k a0) (backseatref01_First.f (k + 1) a0) := by
  intro a0 k
  obtain ⟨ih0, ih1⟩ := backseatref01_First.mono_l k
  unfold backseatref01_First.f
  repeat' first
      | (with_reducible exact ih0 _ _ _)
      | (with_reducible exact ih1 _ _ _)
      | (with_reducible exact backseatref01_need.mono _ _)
      | (with_reducible exact backseatref01_value.mono _ _)
      | (with_reducible exact LeO.refl _)
      | (with_reducible exact LeO.none _)
      | (with_reducible refine LeO.ite ?_ ?_)
      | (with_reducible refine LeO.bind ?_ (fun _ => ?_))
      | exact ih0 _ _ _
      | exact ih1 _ _ _
      | exact backseatref01_need.mono _ _
      | exact backseatref01_value.mono _ _
      | exact LeO.none _
      | refine LeO.ite ?_ ?_
      | refine LeO.bind ?_ (fun _ => ?_)
def utf_Valid.f (a0 : ByteArray) : Option (Bool) := (utf8_ValidString.f a0).bind fun t113 => (some t113)
def backseatlaw01_alive.f (k : Nat)  : Option (Bool) := (utf_First.f k (⟨#[195, 164, 120]⟩ : ByteArray)).bind fun bt114 => (if bt114.2.2 = 0 then (if bt114.1 = 228 then (if bt114.2.1 = 2 then ((utf_Valid.f (⟨#[195, 164]⟩ : ByteArray)).bind fun t117 => (some t117)) else (some false)) else (some false)) else (some false))
theorem backseatlaw01_alive.mono : ∀ k, LeO (backseatlaw01_alive.f k ) (backseatlaw01_alive.f (k + 1) ) := by
  intro  k
  unfold backseatlaw01_alive.f
  repeat' first
      | (with_reducible exact utf_First.mono _ _)
      | (with_reducible exact LeO.refl _)
      | (with_reducible exact LeO.none _)
      | (with_reducible refine LeO.ite ?_ ?_)
      | (with_reducible refine LeO.bind ?_ (fun _ => ?_))
      | exact utf_First.mono _ _
      | exact LeO.none _
      | refine LeO.ite ?_ ?_
      | refine LeO.bind ?_ (fun _ => ?_)
def backseatref01_Valid.l0 : Nat → ByteArray → Option (Bool)
  | 0, _ => none
  | k + 1, x0 => if (x0.size : Int) > 0 then ((backseatref01_First.f k x0).bind fun bt118 => (if bt118.2.2 = 0 then (if 0 ≤ bt118.2.1 then (if bt118.2.1 ≤ (x0.size : Int) then (backseatref01_Valid.l0 k (x0.extract (bt118.2.1 : Int).toNat x0.size)) else (none)) else (none)) else (some false))) else (some true)
def backseatref01_Valid.f (k : Nat) (a0 : ByteArray) : Option (Bool) := backseatref01_Valid.l0 k a0
theorem backseatref01_Valid.mono_l : ∀ k, (∀ y0, LeO (backseatref01_Valid.l0 k y0) (backseatref01_Valid.l0 (k + 1) y0))
  | 0 => fun _ r h => by simp [backseatref01_Valid.l0] at h
  | k + 1 => by
    have ih0 := backseatref01_Valid.mono_l k
    · intro y0
      unfold backseatref01_Valid.l0
      repeat' first
      | (with_reducible exact ih0 _)
      | (with_reducible exact backseatref01_First.mono _ _)
      | (with_reducible exact LeO.refl _)
      | (with_reducible exact LeO.none _)
      | (with_reducible refine LeO.ite ?_ ?_)
      | (with_reducible refine LeO.bind ?_ (fun _ => ?_))
      | exact ih0 _
      | exact backseatref01_First.mono _ _
      | exact LeO.none _
      | refine LeO.ite ?_ ?_
      | refine LeO.bind ?_ (fun _ => ?_)
theorem backseatref01_Valid.mono : ∀ a0 k, LeO (backseatref01_Valid.f k a0) (backseatref01_Valid.f (k + 1) a0) := by
  intro a0 k
  have ih0 := backseatref01_Valid.mono_l k
  unfold backseatref01_Valid.f
  repeat' first
      | (with_reducible exact ih0 _)
      | (with_reducible exact backseatref01_First.mono _ _)
      | (with_reducible exact LeO.refl _)
      | (with_reducible exact LeO.none _)
      | (with_reducible refine LeO.ite ?_ ?_)
      | (with_reducible refine LeO.bind ?_ (fun _ => ?_))
      | exact ih0 _
      | exact backseatref01_First.mono _ _
      | exact LeO.none _
      | refine LeO.ite ?_ ?_
      | refine LeO.bind ?_ (fun _ => ?_)
end Go.Proofs.YthipdgnbpdngpaaDoor.P
end
