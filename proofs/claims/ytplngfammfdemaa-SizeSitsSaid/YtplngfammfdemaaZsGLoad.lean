-- A copy of the text YtplngfammfdemaaGLoad with what this claim does not reach left out (prune.py, a program of this project).
import Derived.Test.YtplngfammfdemaaZsGShort
namespace Go.Proofs.Ytplngfammfdemaa.P
open Go.RowKit Go.Proofs.Ytplngfammfdemaa Go.Proofs.YtplngfammfdemaaW.PrintWords Go.Proofs.YtplngfammfdemaaW.PrintLast Go.Proofs.YtplngfammfdemaaW.PrintMore
set_option linter.unusedVariables false
theorem load_blk4 {a : Act} {W : World} {b : Nat} {x0 x1 x2 x3 : Int} {t : Tmp} {dst : Option Tmp} {pos : String} {after : Array Edge} (ha : a.eval (.tmp t) = .pointer (some ⟨b, 0, none⟩))
    (hb : W.heap[b]? = some (.cells #[.int .i64 x0, .int .i64 x1, .int .i64 x2, .int .i64 x3] 48 (0, 0))) :
    (execOp a.eval { dst := dst, op := .load 48 (.tmp t), type := 48, pos := pos, after := after, guard := none }).run Try.prog W = .ok (.value (.agg #[.int .i64 x0, .int .i64 x1, .int .i64 x2, .int .i64 x3])) W := by
  have hu48 := Try.underlying48
  obtain ⟨h0, h1, h2, h3, f0, f1, f2, f3⟩ := cz4 hb
  have ha' : a.tmps[t]?.getD undef = .pointer (some ⟨b, 0, none⟩) := by first | simpa [Act.eval] using ha | simpa [Act.eval, Acts.eval] using ha
  clear ha hb
  go_simp
end Go.Proofs.Ytplngfammfdemaa.P
