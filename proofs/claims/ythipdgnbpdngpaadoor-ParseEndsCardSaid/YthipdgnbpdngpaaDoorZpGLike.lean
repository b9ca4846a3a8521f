-- A copy of the text YthipdgnbpdngpaaDoorGLike with what this claim does not reach left out (prune.py, a program of this project).
import Derived.Test.YthipdgnbpdngpaaDoorZpSx0
namespace Go.Proofs.YthipdgnbpdngpaaDoor
open Go.RowKit
theorem is_call_ {P : Program} (f : FuncId) {args : Array Value} {w : World} {Q : Ending → World → Prop} (h : Calls P f args w Q) : Calls P f args w Q := h
theorem is_like_ {P : Program} (f : FuncId) (b0 b1 b2 : Int) {x b3 b4 b5 b6 : Value} {w : World} {Q : Ending → World → Prop} (h : Calls P f #[x, .agg #[.int .i64 b0, .int .i32 b1, .int .i64 b2, b3, b4, b5, b6]] w Q) :
    Calls P f #[x, .agg #[.int .i64 b0, .int .i32 b1, .int .i64 b2, b3, b4, b5, b6]] w Q := h
end Go.Proofs.YthipdgnbpdngpaaDoor
