-- A copy of the text YtbnpcnpdeinacaaDoorMK4 with what this claim does not reach left out (prune.py, a program of this project).
import Derived.Test.YtbnpcnpdeinacaaDoorZkMK3
import Derived.Test.YtbnpcnpdeinacaaDoorZkPx12
namespace Go.Proofs.YtbnpcnpdeinacaaDoor
open Go.RowKit Go.Lib Go.Proofs.YtbnpcnpdeinacaaDoorW.PrintWords Go.Proofs.YtbnpcnpdeinacaaDoorW.PrintLast Go.Proofs.YtbnpcnpdeinacaaDoorW.PrintMore Go.Proofs.YtbnpcnpdeinacaaDoor.P
set_option linter.unusedVariables false
theorem same_loop (l : List ByteArray) (hl : l.length ≤ 1000000) : ∀ (d i k : Nat), i + d = l.length → d < k → backseatref03_Same.l0 k l l (l.length : Int) (i : Int) = some true := by
  intro d
  induction d with
  | zero =>
    intro i k hi hk
    obtain ⟨k, rfl⟩ : ∃ m, k = m + 1 := ⟨k - 1, by omega⟩
    simp only [backseatref03_Same.l0]
    rw [if_neg (by omega)]
  | succ d ih =>
    intro i k hi hk
    obtain ⟨k, rfl⟩ : ∃ m, k = m + 1 := ⟨k - 1, by omega⟩
    simp only [backseatref03_Same.l0]
    rw [if_pos (by omega), if_pos (by omega), if_pos (by omega), if_pos (by omega), if_pos trivial]
    rw [show wrap64 ((i : Int) + 1) = ((i + 1 : Nat) : Int) from by unfold wrap64; omega]
    exact ih (i + 1) k (by omega) (by omega)
theorem same_refl (l : List ByteArray) (hl : l.length ≤ 1000000) (k : Nat) (hk : l.length < k) : backseatref03_Same.f k l l = some true := by
  unfold backseatref03_Same.f
  rw [if_pos rfl]
  exact same_loop l hl l.length 0 k (by omega) hk
theorem decode_go (s : ByteArray) (f : Bool) (h : s.size ≤ 1000000) : keys_Decode.f s f = some ((decL s.data.toList.length s.data.toList f).1.map ba, ba (decL s.data.toList.length s.data.toList f).2) := by
  unfold keys_Decode.f
  rw [if_pos h, size_len]
theorem alive_dec : decL 4 [27, 91, 65, 120] false = ([[85, 112], [120]], []) := by decide +kernel
theorem alive_go : backseatlaw03_alive.f = some true := by
  unfold backseatlaw03_alive.f
  rw [decode_go _ _ (by decide)]
  rw [show ((⟨#[27, 91, 65, 120]⟩ : ByteArray)).data.toList = [27, 91, 65, 120] from rfl, show ([27, 91, 65, 120] : List UInt8).length = 4 from rfl, alive_dec, Option.bind_some]
  simp only [Lib.toList_data]
  rfl
theorem cat_data (a b : ByteArray) : (a ++ b).data.toList = a.data.toList ++ b.data.toList := by rw [ByteArray.data_append, Array.toList_append]
end Go.Proofs.YtbnpcnpdeinacaaDoor
