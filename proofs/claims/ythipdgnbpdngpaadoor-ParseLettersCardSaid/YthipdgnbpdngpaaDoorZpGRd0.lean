-- A copy of the text YthipdgnbpdngpaaDoorGRd0 with what this claim does not reach left out (prune.py, a program of this project).
import Derived.Test.YthipdgnbpdngpaaDoorZpSx0
namespace Go.Proofs.YthipdgnbpdngpaaDoor
open Go.RowKit Go.Proofs.YthipdgnbpdngpaaDoorW.PrintWords Go.Proofs.YthipdgnbpdngpaaDoorW.PrintLast Go.Proofs.YthipdgnbpdngpaaDoorW.PrintMore S
set_option linter.unusedVariables false
set_option linter.unusedSimpArgs false
/-- The reader's seven cells. -/
def rdCells (vP vD : Value) (p : S52) : Array Value := #[.int .i64 p.f0, .int .i64 p.f1, vP, .int .i64 p.f3, .string p.f4, .string p.f5, vD]
/-- The reader lies in block B: a parser p, and d is done. -/
structure RS (w : World) (base : Nat) (P : Nat → Prop) (B : Nat) (vP vD : Value) (p : S52) (d : List S62) : Prop where
  blk : w.heap[B]? = some (.cells (rdCells vP vD p) 84 (0, 0))
  low : base ≤ B
  old : ∀ k, P k → k < base
  par : Kd.V (Kd.int .i64) 3 w base (fun k => ((P k ∨ base ≤ k) ∧ k ≠ B) ∧ some k ≠ vD.ownBlock) vP p.f2
  don : Kd.N k62 62 w base (fun k => (P k ∨ base ≤ k) ∧ k ≠ B) vD d
section
variable {w w1 : World} {base B : Nat} {P : Nat → Prop} {vP vD : Value} {p : S52} {d : List S62}
theorem RS.size (h : RS w base P B vP vD p d) : base ≤ w.heap.size := Nat.le_of_lt (Nat.lt_of_le_of_lt h.low (blk_lt h.blk))
theorem RS.below (h : RS w base P B vP vD p d) (hb : Below w.heap.size w w1) : RS w1 base P B vP vD p d :=
  ⟨blk_below h.blk hb, h.low, h.old, Kd.V_below h.par hb, Kd.N_below h.don hb⟩
theorem RS.drewN (h : RS w base P B vP vD p d) (n : Nat) : RS (w.drewN n) base P B vP vD p d := h.below (pw_below_drewN (Below.refl _ _) n)
/-- A cell of the parser that is no row. -/
theorem RS.put (h : RS w base P B vP vD p d) (i : Nat) (u : Value) (p' : S52) (e : (rdCells vP vD p).setIfInBounds i u = rdCells vP vD p') (e2 : p'.f2 = p.f2) : RS (w.setCell ⟨B, i, none⟩ u) base P B vP vD p' d :=
  ⟨blk_put h.blk i u e, h.low, h.old, by rw [e2]; exact Kd.V_far (p := ⟨B, i, none⟩) h.par (fun k hk => hk.1.2) u, Kd.N_far (p := ⟨B, i, none⟩) h.don (fun k hk => hk.2) u⟩
/-- Another row of numbers. -/
theorem RS.putPar (h : RS w base P B vP vD p d) (vP' : Value) (p' : S52) (e : (rdCells vP vD p).setIfInBounds 2 vP' = rdCells vP' vD p')
    (hv : Kd.V (Kd.int .i64) 3 w base (fun k => ((P k ∨ base ≤ k) ∧ k ≠ B) ∧ some k ≠ vD.ownBlock) vP' p'.f2) : RS (w.setCell ⟨B, 2, none⟩ vP') base P B vP' vD p' d :=
  ⟨blk_put h.blk 2 vP' e, h.low, h.old, Kd.V_far (p := ⟨B, 2, none⟩) hv (fun k hk => hk.1.2) vP', Kd.N_far (p := ⟨B, 2, none⟩) h.don (fun k hk => hk.2) vP'⟩
/-- The whole parser, all rows of it none. -/
theorem RS.to (h : RS w base P B vP vD p d) (n : Int) :
    RS ((((((w.setCell ⟨B, 0, none⟩ (.int .i64 n)).setCell ⟨B, 1, none⟩ (.int .i64 0)).setCell ⟨B, 2, none⟩ (.slice none 0 0)).setCell ⟨B, 3, none⟩ (.int .i64 0)).setCell ⟨B, 4, none⟩ (.string ⟨#[]⟩)).setCell ⟨B, 5, none⟩ (.string ⟨#[]⟩)) base P B (.slice none 0 0) vD ⟨n, 0, [], 0, ⟨#[]⟩, ⟨#[]⟩⟩ d :=
  (((((h.put 0 (.int .i64 n) ⟨n, p.f1, p.f2, p.f3, p.f4, p.f5⟩ rfl rfl).put 1 (.int .i64 0) ⟨n, 0, p.f2, p.f3, p.f4, p.f5⟩ rfl rfl).putPar (.slice none 0 0) ⟨n, 0, [], p.f3, p.f4, p.f5⟩ rfl (Kd.V_nil _ _ _ _ _)).put 3 (.int .i64 0) ⟨n, 0, [], 0, p.f4, p.f5⟩ rfl rfl).put 4 (.string ⟨#[]⟩) ⟨n, 0, [], 0, ⟨#[]⟩, p.f5⟩ rfl rfl).put 5 (.string ⟨#[]⟩) ⟨n, 0, [], 0, ⟨#[]⟩, ⟨#[]⟩⟩ rfl rfl
theorem RS.cell (h : RS w base P B vP vD p d) (i : Nat) : w.cell? ⟨B, i, none⟩ = (rdCells vP vD p)[i]? := blk_cell h.blk i
theorem RS.frozen (h : RS w base P B vP vD p d) (i : Nat) : w.frozen? ⟨B, i, none⟩ = false := blk_frozen h.blk i
end
/-- From w to w' nothing was written but block B and the block of what is done, that was vD's and is vD''s. -/
structure Kp (B : Nat) (vD vD' : Value) (w w' : World) : Prop where
  blk : ∀ k, k < w.heap.size → k ≠ B → some k ≠ vD.ownBlock → w'.heap[k]? = w.heap[k]?
  own : vD'.ownBlock = vD.ownBlock ∨ ∃ b, vD'.ownBlock = some b ∧ w.heap.size ≤ b
  size : w.heap.size ≤ w'.heap.size
section
variable {w w1 w2 : World} {B : Nat} {vD vD1 vD2 : Value}
theorem Kp.refl (B : Nat) (vD : Value) (w : World) : Kp B vD vD w w := ⟨fun _ _ _ _ => rfl, .inl rfl, Nat.le_refl _⟩
theorem Kp.trans (h : Kp B vD vD1 w w1) (g : Kp B vD1 vD2 w1 w2) : Kp B vD vD2 w w2 := by
  refine ⟨fun k hk hB hn => ?_, ?_, Nat.le_trans h.size g.size⟩
  · refine (g.blk k (Nat.lt_of_lt_of_le hk h.size) hB (fun e => ?_)).trans (h.blk k hk hB hn)
    rcases h.own with o | ⟨b, o, hb⟩
    · exact hn (e.trans o)
    · rw [o] at e; simp only [Option.some.injEq] at e; omega
  · rcases g.own with o | ⟨b, o, hb⟩
    · rw [o]; exact h.own
    · exact .inr ⟨b, o, Nat.le_trans h.size hb⟩
theorem Kp.put (h : Kp B vD vD1 w w1) (i : Nat) (u : Value) : Kp B vD vD1 w (w1.setCell ⟨B, i, none⟩ u) :=
  ⟨fun k hk hB hn => (Below.heap_setCell w1 _ u k hB).trans (h.blk k hk hB hn), h.own, by simpa [World.setCell] using h.size⟩
theorem Kp.alloc (h : Kp B vD vD1 w w1) (o : Obj) : Kp B vD vD1 w (w1.alloc o) :=
  ⟨fun k hk hB hn => (Below.heap_alloc w1 o k (Nat.lt_of_lt_of_le hk h.size)).trans (h.blk k hk hB hn), h.own, by simpa using Nat.le_succ_of_le h.size⟩
theorem Kp.drew (h : Kp B vD vD1 w w1) : Kp B vD vD1 w w1.drew := ⟨h.blk, h.own, h.size⟩
theorem Kp.far (h : Kp B vD vD1 w w1) {p : Addr} (hp : w.heap.size ≤ p.block) (u : Value) : Kp B vD vD1 w (w1.setCell p u) :=
  ⟨fun k hk hB hn => (Below.heap_setCell w1 _ u k (by omega)).trans (h.blk k hk hB hn), h.own, by simpa [World.setCell] using h.size⟩
theorem Kp.below (h : Kp B vD vD1 w w1) (hb : Below w1.heap.size w1 w2) : Kp B vD vD1 w w2 :=
  ⟨fun k hk hB hn => (hb.block k (Nat.lt_of_lt_of_le hk h.size)).trans (h.blk k hk hB hn), h.own, Nat.le_trans h.size hb.size⟩
theorem Kp.drewN (h : Kp B vD vD1 w w1) (n : Nat) : Kp B vD vD1 w (w1.drewN n) := h.below (pw_below_drewN (Below.refl _ _) n)
theorem Kp.done (h : Kp B vD vD1 w w1) (hg : w1.grownBy w2 vD1.ownBlock) (hat : vD2.ownBlock = vD1.ownBlock ∨ ∃ b, vD2.ownBlock = some b ∧ w1.heap.size ≤ b) : Kp B vD vD2 w w2 :=
  h.trans ⟨fun k hk _ hn => hg.block k hk hn, hat, hg.size⟩
end
/-- What a method leaves. -/
def Left (w : World) (base : Nat) (P : Nat → Prop) (B : Nat) (vD : Value) (p : S52) (d : List S62) (w' : World) : Prop := ∃ vP' vD', RS w' base P B vP' vD' p d ∧ Below base w w' ∧ Kp B vD vD' w w'
theorem Left.after {w w1 w2 : World} {base B : Nat} {P : Nat → Prop} {vD vD1 : Value} {p : S52} {d : List S62} (hb : Below base w w1) (hk : Kp B vD vD1 w w1) (h : Left w1 base P B vD1 p d w2) : Left w base P B vD p d w2 := by
  obtain ⟨vP', vD', h1, h2, h3⟩ := h
  exact ⟨vP', vD', h1, hb.trans h2, hk.trans h3⟩
def toF (n : Int) : S52 := ⟨n, 0, [], 0, ⟨#[]⟩, ⟨#[]⟩⟩
theorem to_left {w : World} {base : Nat} {P : Nat → Prop} {B : Nat} {vP vD : Value} {p : S52} {d : List S62} (h : RS w base P B vP vD p d) (n : Int) :
    Left w base P B vD (toF n) d ((((((w.setCell ⟨B, 0, none⟩ (.int .i64 n)).setCell ⟨B, 1, none⟩ (.int .i64 0)).setCell ⟨B, 2, none⟩ (.slice none 0 0)).setCell ⟨B, 3, none⟩ (.int .i64 0)).setCell ⟨B, 4, none⟩ (.string ⟨#[]⟩)).setCell ⟨B, 5, none⟩ (.string ⟨#[]⟩)) :=
  ⟨_, _, h.to n, ((((((Below.refl base w).setCell h.low _).setCell h.low _).setCell h.low _).setCell h.low _).setCell h.low _).setCell h.low _, ((((((Kp.refl B vD w).put _ _).put _ _).put _ _).put _ _).put _ _).put _ _⟩
set_option maxRecDepth 100000 in
set_option maxHeartbeats 4000000 in
theorem to_calls (n : Int) (w : World) (base : Nat) (P : Nat → Prop) (B : Nat) (vP vD : Value) (p : S52) (d : List S62) (h : RS w base P B vP vD p d) :
    Calls Tryd.prog 79 #[.pointer (some ⟨B, 0, none⟩), .int .i64 n] w fun e w' => e = .returned (.tuple #[]) ∧ Left w base P B vD (toF n) d w' := by
  have hz0 : w.cell? ⟨B, 0, none⟩ = some (.int .i64 p.f0) := h.cell 0
  have hz1 : w.cell? ⟨B, 1, none⟩ = some (.int .i64 p.f1) := h.cell 1
  have hz2 : w.cell? ⟨B, 2, none⟩ = some vP := h.cell 2
  have hz3 : w.cell? ⟨B, 3, none⟩ = some (.int .i64 p.f3) := h.cell 3
  have hz4 : w.cell? ⟨B, 4, none⟩ = some (.string p.f4) := h.cell 4
  have hz5 : w.cell? ⟨B, 5, none⟩ = some (.string p.f5) := h.cell 5
  have hf0 := h.frozen 0
  have hf1 := h.frozen 1
  have hf2 := h.frozen 2
  have hf3 := h.frozen 3
  have hf4 := h.frozen 4
  have hf5 := h.frozen 5
  have H := Aside0.mk h
  have hu52 := Tryd.underlying52
  clear h
  go_enter Tryd.func79, Tryd.ntmps79
  go_wp2
  go_end0
  exact ⟨rfl, to_left H.out n⟩
end Go.Proofs.YthipdgnbpdngpaaDoor
