-- A copy of the text YthipdgnbpdngpaaDoorMUtf with what this claim does not reach left out (prune.py, a program of this project).
import Derived.Test.YthipdgnbpdngpaaDoorZpGText
import Derived.Lib.ValidLaws
import Derived.Lib.TrimUEq
import Derived.Lib.DecodeNEq
namespace Go.Proofs.YthipdgnbpdngpaaDoor
open Go.Lib
/-- Byte j of a list. -/
def g (l : List UInt8) (j : Nat) : Nat := (l.getD j 0).toNat
theorem g_lt (l : List UInt8) (j : Nat) : g l j < 256 := (l.getD j 0).toNat_lt
def szN (b : Nat) : Nat := firstT b % 8
def loN (b : Nat) : Nat := accLo (firstT b / 16)
def hiN (b : Nat) : Nat := accHi (firstT b / 16)
def val2 (l : List UInt8) : Int := (g l 0 % 32 * 64 + g l 1 % 64 : Nat)
def val3 (l : List UInt8) : Int := (g l 0 % 16 * 4096 + g l 1 % 64 * 64 + g l 2 % 64 : Nat)
def val4 (l : List UInt8) : Int := (g l 0 % 8 * 262144 + g l 1 % 64 * 4096 + g l 2 % 64 * 64 + g l 3 % 64 : Nat)
/-- The letter, how many bytes, the error: of a list of bytes. -/
def firstL (l : List UInt8) : Int × Int × Int :=
  if l.length = 0 then (0, 0, 2)
  else if g l 0 < 128 then ((g l 0 : Int), 1, 0)
  else if szN (g l 0) = 1 then (0, 1, 4)
  else if l.length = 1 then (0, 0, 2)
  else if g l 1 < loN (g l 0) ∨ hiN (g l 0) < g l 1 then (0, 1, 4)
  else if szN (g l 0) = 2 then (val2 l, 2, 0)
  else if l.length = 2 then (0, 0, 2)
  else if g l 2 < 128 ∨ 191 < g l 2 then (0, 2, 4)
  else if szN (g l 0) = 3 then (val3 l, 3, 0)
  else if l.length = 3 then (0, 0, 2)
  else if g l 3 < 128 ∨ 191 < g l 3 then (0, 3, 4)
  else (val4 l, 4, 0)
/-- The classes of first bytes. -/
theorem lead_cases (b : Nat) (hb : b < 256) :
    (b < 128 ∧ firstT b = 240) ∨ ((128 ≤ b ∧ b < 194 ∨ 245 ≤ b) ∧ firstT b = 241) ∨ (194 ≤ b ∧ b < 224 ∧ firstT b = 2) ∨ (b = 224 ∧ firstT b = 19) ∨
    ((225 ≤ b ∧ b < 237 ∨ 238 ≤ b ∧ b < 240) ∧ firstT b = 3) ∨ (b = 237 ∧ firstT b = 35) ∨ (b = 240 ∧ firstT b = 52) ∨ (241 ≤ b ∧ b < 244 ∧ firstT b = 4) ∨ (b = 244 ∧ firstT b = 68) := by
  unfold firstT
  repeat' split
  all_goals omega
theorem get!_getD (s : ByteArray) (i : Nat) : s.get! i = s.data.toList.getD i 0 := by
  cases s with
  | mk d =>
    show d[i]! = d.toList.getD i 0
    by_cases h : i < d.size
    · rw [getElem!_pos d i h, List.getD_eq_getElem?_getD, List.getElem?_eq_getElem (by simpa using h)]; simp
    · rw [getElem!_neg d i h, List.getD_eq_getElem?_getD, List.getElem?_eq_none (by simpa using h)]; rfl
def fullL (l : List UInt8) : Bool := fullN l.length (g l 0) (g l 1) (g l 2)
theorem fullB_L (s : ByteArray) : fullB s = fullL s.data.toList := by
  unfold fullB fullL g
  rw [get!_getD, get!_getD, get!_getD]
  rfl
theorem toList_extract (s : ByteArray) (i j : Nat) : (s.extract i j).data.toList = (s.data.toList.drop i).take (j - i) := by
  rw [ByteArray.data_extract, Array.toList_extract]
theorem decodeGo_L (s : ByteArray) (h : s.size ≠ 0) : decodeGo s = decodeN s.data.toList.length (g s.data.toList 0) (g s.data.toList 1) (g s.data.toList 2) (g s.data.toList 3) := by
  unfold decodeGo
  rw [if_neg h]
  have := decodeL_drop s 0
  rw [List.drop_zero] at this
  rw [← this, decodeL_N]
  rfl
theorem g_take (l : List UInt8) (n j : Nat) (h : j < n) : g (l.take n) j = g l j := by
  unfold g
  rw [List.getD_eq_getElem?_getD, List.getD_eq_getElem?_getD, List.getElem?_take, if_pos h]
end Go.Proofs.YthipdgnbpdngpaaDoor
