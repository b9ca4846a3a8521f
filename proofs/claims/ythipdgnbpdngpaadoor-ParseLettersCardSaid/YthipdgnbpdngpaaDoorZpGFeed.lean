-- Copies of the texts YthipdgnbpdngpaaDoorGRdH, YthipdgnbpdngpaaDoorGFeed with what this claim does not reach left out (prune.py, a program of this project).
import Derived.Test.YthipdgnbpdngpaaDoorZpGPRight
import Derived.BigRegion
section
namespace Go.Proofs.YthipdgnbpdngpaaDoor
open Go.RowKit Go.Proofs.YthipdgnbpdngpaaDoorW.PrintWords Go.Proofs.YthipdgnbpdngpaaDoorW.PrintLast Go.Proofs.YthipdgnbpdngpaaDoorW.PrintMore S
set_option linter.unusedVariables false
set_option linter.unusedSimpArgs false
theorem two_p (w w1 : World) (a b : Array Value) (hb : Below ((w.alloc (.cells a 52)).alloc (.cells b 52)).heap.size ((w.alloc (.cells a 52)).alloc (.cells b 52)) w1) : w1.heap[w.heap.size]? = some (.cells a 52 (0, 0)) := blk_below (blk_alloc (blk_new w _) _) hb
theorem two_r (w w1 : World) (a b : Array Value) (hb : Below ((w.alloc (.cells a 52)).alloc (.cells b 52)).heap.size ((w.alloc (.cells a 52)).alloc (.cells b 52)) w1) : w1.heap[w.heap.size + 1]? = some (.cells b 52 (0, 0)) := by
  have h := blk_below (blk_new (w.alloc (.cells a 52)) (.cells b 52)) hb
  rw [World.size_alloc] at h
  exact h
theorem two_b (w w1 : World) (a b : Array Value) (hb : Below ((w.alloc (.cells a 52)).alloc (.cells b 52)).heap.size ((w.alloc (.cells a 52)).alloc (.cells b 52)) w1) : Below w.heap.size w w1 :=
  (below_alloc (below_alloc (Below.refl _ _) _) _).trans (hb.mono (by rw [World.size_alloc, World.size_alloc]; omega))
/-- What parse.Feed leaves, where the parser may be. -/
def FeedPost (w : World) (P0 : Nat → Prop) (p : S52) (d : List S62) (e : Ending) (w' : World) : Prop :=
  ∃ v2_ v6_, e = .returned (.tuple #[.agg #[.int .i64 p.f0, .int .i64 p.f1, v2_, .int .i64 p.f3, .string p.f4, .string p.f5], v6_, .int .i64 0]) ∧
    Kd.V (Kd.int .i64) 3 w' w.heap.size (fun k_ => (P0 k_ ∨ w.heap.size ≤ k_) ∧ some k_ ≠ v6_.ownBlock) v2_ p.f2 ∧ Kd.N k62 62 w' w.heap.size (fun k_ => P0 k_ ∨ w.heap.size ≤ k_) v6_ d ∧ Below w.heap.size w w'
theorem feed_start (p : S52) (A2 : Option Addr) (c2 : Nat) (P0 : Nat → Prop) (w w1 : World) (hs : Kd.V (Kd.int .i64) 3 w w.heap.size (fun k_ => P0 k_) (.slice A2 p.f2.length c2) p.f2) (hb : Below w.heap.size w w1) :
    RS (w1.alloc (.cells (rdCells (.slice A2 p.f2.length c2) (.slice none 0 0) p) 84)) w1.heap.size (fun k => P0 k ∧ k < w.heap.size) w1.heap.size (.slice A2 p.f2.length c2) (.slice none 0 0) p [] :=
  ⟨blk_new w1 _, Nat.le_refl _, fun k hk => Nat.lt_of_lt_of_le hk.2 hb.size,
    Kd.V_mono (Kd.V_alloc (Kd.V_below (Kd.V_bound hs) hb) _) (fun k hk => ⟨⟨.inl hk, fun e => by have := hk.2; have := hb.size; omega⟩, by simp [Value.ownBlock]⟩), Kd.N_nil _ _ _ _ _⟩
theorem feed_end {w wr : World} {B : Nat} {P0 : Nat → Prop} {p : S52} {d : List S62} {A D : Option Addr} {c k : Nat} (h : RS wr B (fun k => P0 k ∧ k < w.heap.size) B (.slice A p.f2.length c) (.slice D d.length k) p d) (hb : Below w.heap.size w wr) (hB : w.heap.size + 1 < B)
    {u0 u1 u2 u3 u4 u5 : Value} :
    FeedPost w P0 p d (.returned (.tuple #[.agg #[.int .i64 p.f0, .int .i64 p.f1, .slice A p.f2.length c, .int .i64 p.f3, .string p.f4, .string p.f5], .slice D d.length k, .int .i64 0])) (((((((wr.setCell ⟨w.heap.size + 1, 0, none⟩ u0).setCell ⟨w.heap.size + 1, 1, none⟩ u1).setCell ⟨w.heap.size + 1, 2, none⟩ u2).setCell ⟨w.heap.size + 1, 3, none⟩ u3).setCell ⟨w.heap.size + 1, 4, none⟩ u4).setCell ⟨w.heap.size + 1, 5, none⟩ u5).drew) := by
  have ok1 : ∀ k, (((P0 k ∧ k < w.heap.size) ∨ B ≤ k) ∧ k ≠ B) → k ≠ w.heap.size + 1 := fun k hk => by
    rcases hk.1 with h1 | h1
    · have := h1.2; omega
    · omega
  have ok2 : ∀ k, (((P0 k ∧ k < w.heap.size) ∨ B ≤ k) ∧ k ≠ B) → P0 k ∨ w.heap.size ≤ k := fun k hk => by
    rcases hk.1 with h1 | h1
    · exact .inl h1.1
    · exact .inr (by omega)
  refine ⟨_, _, rfl, ?_, ?_, ?_⟩
  · exact Kd.V_mono (Kd.V_lower (Kd.V_drew (Kd.V_far (p := ⟨w.heap.size + 1, 5, none⟩) (Kd.V_far (p := ⟨w.heap.size + 1, 4, none⟩) (Kd.V_far (p := ⟨w.heap.size + 1, 3, none⟩) (Kd.V_far (p := ⟨w.heap.size + 1, 2, none⟩) (Kd.V_far (p := ⟨w.heap.size + 1, 1, none⟩) (Kd.V_far (p := ⟨w.heap.size + 1, 0, none⟩) h.par (fun k hk => ok1 k hk.1) _) (fun k hk => ok1 k hk.1) _) (fun k hk => ok1 k hk.1) _) (fun k hk => ok1 k hk.1) _) (fun k hk => ok1 k hk.1) _) (fun k hk => ok1 k hk.1) _)) (by omega)) (fun k hk => ⟨ok2 k hk.1, hk.2⟩)
  · exact Kd.N_mono (Kd.N_lower (Kd.N_drew (Kd.N_far (p := ⟨w.heap.size + 1, 5, none⟩) (Kd.N_far (p := ⟨w.heap.size + 1, 4, none⟩) (Kd.N_far (p := ⟨w.heap.size + 1, 3, none⟩) (Kd.N_far (p := ⟨w.heap.size + 1, 2, none⟩) (Kd.N_far (p := ⟨w.heap.size + 1, 1, none⟩) (Kd.N_far (p := ⟨w.heap.size + 1, 0, none⟩) h.don ok1 _) ok1 _) ok1 _) ok1 _) ok1 _) ok1 _)) (by omega)) ok2
  · exact ((((((hb.setCell (Nat.le_succ _) _).setCell (Nat.le_succ _) _).setCell (Nat.le_succ _) _).setCell (Nat.le_succ _) _).setCell (Nat.le_succ _) _).setCell (Nat.le_succ _) _).drew
theorem run_right (l : List UInt8) : ∀ (st : S52 × List S62), rightP st.1 → rightP (runT (takeR (pendR 4)) st l).1 ∧ (runT (takeR (pendR 4)) st l).2.length + (runT (takeR (pendR 4)) st l).1.f5.size ≤ st.2.length + st.1.f5.size + l.length := by
  induction l with
  | nil => intro st h; exact ⟨h, by simp [runT]⟩
  | cons b l ih =>
    intro st h
    have h3 := right_pend h
    obtain ⟨a1, a2, a3⟩ := take_fine (pend_fine 4) st.1 st.2 (b.toNat : Int) h (by omega)
    obtain ⟨b1, b2⟩ := ih (takeR (pendR 4) st.1 st.2 (b.toNat : Int)) a1
    simp only [runT, List.foldl_cons, List.length_cons] at b1 b2 ⊢
    exact ⟨b1, by omega⟩
theorem byte_at (s : ByteArray) (j : Nat) (h : j < s.size) : s.data.toList.getD j 0 = s[j] := by
  rw [List.getD_eq_getElem?_getD, List.getElem?_eq_getElem (by rw [len_size]; exact h)]
  rfl
set_option maxRecDepth 100000 in
set_option maxHeartbeats 4000000 in
theorem feed_wrong (p : S52) (a1 : ByteArray) (A2 : Option Addr) (c2 : Nat) (P0 : Nat → Prop) (w : World) (hs : Kd.V (Kd.int .i64) 3 w w.heap.size (fun k_ => P0 k_) (.slice A2 p.f2.length c2) p.f2) (hT0 : TabsAt w) (hR0 : rightB p = false) :
    Calls Tryd.prog 32 #[.agg #[.int .i64 p.f0, .int .i64 p.f1, .slice A2 p.f2.length c2, .int .i64 p.f3, .string p.f4, .string p.f5], .string a1] w fun e w' => e = .returned (.tuple #[.agg #[.int .i64 0, .int .i64 0, .slice none 0 0, .int .i64 0, .string ⟨#[]⟩, .string ⟨#[]⟩], .slice none 0 0, .int .i64 1]) ∧ Below w.heap.size w w' := by
  obtain ⟨_, hc0, hF0⟩ := Kd.V_at hs
  have HC := Aside0.mk (Kd.F_now hF0)
  have hc := Aside0.mk hc0
  have hT := Aside0.mk hT0
  have HS := Aside0.mk hs
  have hu52 := Tryd.underlying52
  have hu84 := Tryd.underlying84
  clear hs hc0 hF0 hT0
  go_enter Tryd.func32, Tryd.ntmps32
  go_wp2_with (first | (go_at_call 34; (with_reducible refine (right_calls p A2 c2 _ (by repeat (with_reducible first | exact HC.out | refine Kd.C_alloc ?_ _)) hc.out (tabs_here hT.out (by repeat (with_reducible first | exact Below.refl _ _ | refine below_alloc ?_ _)))).mono ?_); rintro e w1 ⟨rfl, hb1⟩; have RB := Aside0.mk (two_r w w1 _ _ hb1); have PB := Aside0.mk (two_p w w1 _ _ hb1); have BB := Aside0.mk (two_b w w1 _ _ hb1); have q0 : w1.cell? ⟨w.heap.size + 1, 0, none⟩ = some (.int .i64 0) := blk_cell RB.out 0; have qf0 : w1.frozen? ⟨w.heap.size + 1, 0, none⟩ = false := blk_frozen RB.out 0; have q1 : w1.cell? ⟨w.heap.size + 1, 1, none⟩ = some (.int .i64 0) := blk_cell RB.out 1; have qf1 : w1.frozen? ⟨w.heap.size + 1, 1, none⟩ = false := blk_frozen RB.out 1; have q2 : w1.cell? ⟨w.heap.size + 1, 2, none⟩ = some (.slice none 0 0) := blk_cell RB.out 2; have qf2 : w1.frozen? ⟨w.heap.size + 1, 2, none⟩ = false := blk_frozen RB.out 2; have q3 : w1.cell? ⟨w.heap.size + 1, 3, none⟩ = some (.int .i64 0) := blk_cell RB.out 3; have qf3 : w1.frozen? ⟨w.heap.size + 1, 3, none⟩ = false := blk_frozen RB.out 3; have q4 : w1.cell? ⟨w.heap.size + 1, 4, none⟩ = some (.string ⟨#[]⟩) := blk_cell RB.out 4; have qf4 : w1.frozen? ⟨w.heap.size + 1, 4, none⟩ = false := blk_frozen RB.out 4; have q5 : w1.cell? ⟨w.heap.size + 1, 5, none⟩ = some (.string ⟨#[]⟩) := blk_cell RB.out 5; have qf5 : w1.frozen? ⟨w.heap.size + 1, 5, none⟩ = false := blk_frozen RB.out 5; have u0 : w1.cell? ⟨w.heap.size, 0, none⟩ = some (.int .i64 p.f0) := blk_cell PB.out 0; have uf0 : w1.frozen? ⟨w.heap.size, 0, none⟩ = false := blk_frozen PB.out 0; have u1 : w1.cell? ⟨w.heap.size, 1, none⟩ = some (.int .i64 p.f1) := blk_cell PB.out 1; have uf1 : w1.frozen? ⟨w.heap.size, 1, none⟩ = false := blk_frozen PB.out 1; have u2 : w1.cell? ⟨w.heap.size, 2, none⟩ = some (.slice A2 p.f2.length c2) := blk_cell PB.out 2; have uf2 : w1.frozen? ⟨w.heap.size, 2, none⟩ = false := blk_frozen PB.out 2; have u3 : w1.cell? ⟨w.heap.size, 3, none⟩ = some (.int .i64 p.f3) := blk_cell PB.out 3; have uf3 : w1.frozen? ⟨w.heap.size, 3, none⟩ = false := blk_frozen PB.out 3; have u4 : w1.cell? ⟨w.heap.size, 4, none⟩ = some (.string p.f4) := blk_cell PB.out 4; have uf4 : w1.frozen? ⟨w.heap.size, 4, none⟩ = false := blk_frozen PB.out 4; have u5 : w1.cell? ⟨w.heap.size, 5, none⟩ = some (.string p.f5) := blk_cell PB.out 5; have uf5 : w1.frozen? ⟨w.heap.size, 5, none⟩ = false := blk_frozen PB.out 5; clear hb1))
  refine bodyPost_ret (v := .tuple #[.agg #[.int .i64 0, .int .i64 0, .slice none 0 0, .int .i64 0, .string ⟨#[]⟩, .string ⟨#[]⟩], .slice none 0 0, .int .i64 1]) (by simp [results, Tryd.results32, go_sem, *]) rfl ⟨rfl, ?_⟩
  exact (((((BB.out.setCell (Nat.le_succ _) _).setCell (Nat.le_succ _) _).setCell (Nat.le_succ _) _).setCell (Nat.le_succ _) _).setCell (Nat.le_succ _) _).setCell (Nat.le_succ _) _
set_option maxRecDepth 100000 in
set_option maxHeartbeats 4000000 in
theorem feed_right (p : S52) (a1 : ByteArray) (A2 : Option Addr) (c2 : Nat) (P0 : Nat → Prop) (w : World) (hs : Kd.V (Kd.int .i64) 3 w w.heap.size (fun k_ => P0 k_) (.slice A2 p.f2.length c2) p.f2) (hT0 : TabsAt w) (hR0 : rightB p = true) (hP0 : rightP p) (ha : a1.size ≤ 1000000) :
    Calls Tryd.prog 32 #[.agg #[.int .i64 p.f0, .int .i64 p.f1, .slice A2 p.f2.length c2, .int .i64 p.f3, .string p.f4, .string p.f5], .string a1] w fun e w' => FeedPost w P0 (runT (takeR (pendR 4)) (p, []) a1.data.toList).1 (runT (takeR (pendR 4)) (p, []) a1.data.toList).2 e w' := by
  obtain ⟨_, hc0, hF0⟩ := Kd.V_at hs
  have HC := Aside0.mk (Kd.F_now hF0)
  have hc := Aside0.mk hc0
  have hT := Aside0.mk hT0
  have HS := Aside0.mk hs
  have hu52 := Tryd.underlying52
  have hu84 := Tryd.underlying84
  clear hs hc0 hF0 hT0
  have HP := Aside0.mk hP0
  obtain ⟨⟨p', d'⟩, hq⟩ : ∃ q, runT (takeR (pendR 4)) (p, []) a1.data.toList = q := ⟨_, rfl⟩
  rw [hq]
  have HQ := Aside0.mk hq
  clear hP0 hq
  show Calls Tryd.prog 32 #[.agg #[.int .i64 p.f0, .int .i64 p.f1, .slice A2 p.f2.length c2, .int .i64 p.f3, .string p.f4, .string p.f5], .string a1] w fun e w' => FeedPost w P0 p' d' e w'
  go_enter Tryd.func32, Tryd.ntmps32
  go_wp2_with (first | (go_at_call 34; (with_reducible refine (right_calls p A2 c2 _ (by repeat (with_reducible first | exact HC.out | refine Kd.C_alloc ?_ _)) hc.out (tabs_here hT.out (by repeat (with_reducible first | exact Below.refl _ _ | refine below_alloc ?_ _)))).mono ?_); rintro e w1 ⟨rfl, hb1⟩; have RB := Aside0.mk (two_r w w1 _ _ hb1); have PB := Aside0.mk (two_p w w1 _ _ hb1); have BB := Aside0.mk (two_b w w1 _ _ hb1); have q0 : w1.cell? ⟨w.heap.size + 1, 0, none⟩ = some (.int .i64 0) := blk_cell RB.out 0; have qf0 : w1.frozen? ⟨w.heap.size + 1, 0, none⟩ = false := blk_frozen RB.out 0; have q1 : w1.cell? ⟨w.heap.size + 1, 1, none⟩ = some (.int .i64 0) := blk_cell RB.out 1; have qf1 : w1.frozen? ⟨w.heap.size + 1, 1, none⟩ = false := blk_frozen RB.out 1; have q2 : w1.cell? ⟨w.heap.size + 1, 2, none⟩ = some (.slice none 0 0) := blk_cell RB.out 2; have qf2 : w1.frozen? ⟨w.heap.size + 1, 2, none⟩ = false := blk_frozen RB.out 2; have q3 : w1.cell? ⟨w.heap.size + 1, 3, none⟩ = some (.int .i64 0) := blk_cell RB.out 3; have qf3 : w1.frozen? ⟨w.heap.size + 1, 3, none⟩ = false := blk_frozen RB.out 3; have q4 : w1.cell? ⟨w.heap.size + 1, 4, none⟩ = some (.string ⟨#[]⟩) := blk_cell RB.out 4; have qf4 : w1.frozen? ⟨w.heap.size + 1, 4, none⟩ = false := blk_frozen RB.out 4; have q5 : w1.cell? ⟨w.heap.size + 1, 5, none⟩ = some (.string ⟨#[]⟩) := blk_cell RB.out 5; have qf5 : w1.frozen? ⟨w.heap.size + 1, 5, none⟩ = false := blk_frozen RB.out 5; have u0 : w1.cell? ⟨w.heap.size, 0, none⟩ = some (.int .i64 p.f0) := blk_cell PB.out 0; have uf0 : w1.frozen? ⟨w.heap.size, 0, none⟩ = false := blk_frozen PB.out 0; have u1 : w1.cell? ⟨w.heap.size, 1, none⟩ = some (.int .i64 p.f1) := blk_cell PB.out 1; have uf1 : w1.frozen? ⟨w.heap.size, 1, none⟩ = false := blk_frozen PB.out 1; have u2 : w1.cell? ⟨w.heap.size, 2, none⟩ = some (.slice A2 p.f2.length c2) := blk_cell PB.out 2; have uf2 : w1.frozen? ⟨w.heap.size, 2, none⟩ = false := blk_frozen PB.out 2; have u3 : w1.cell? ⟨w.heap.size, 3, none⟩ = some (.int .i64 p.f3) := blk_cell PB.out 3; have uf3 : w1.frozen? ⟨w.heap.size, 3, none⟩ = false := blk_frozen PB.out 3; have u4 : w1.cell? ⟨w.heap.size, 4, none⟩ = some (.string p.f4) := blk_cell PB.out 4; have uf4 : w1.frozen? ⟨w.heap.size, 4, none⟩ = false := blk_frozen PB.out 4; have u5 : w1.cell? ⟨w.heap.size, 5, none⟩ = some (.string p.f5) := blk_cell PB.out 5; have uf5 : w1.frozen? ⟨w.heap.size, 5, none⟩ = false := blk_frozen PB.out 5; clear hb1))
  have h2w : 2 ≤ w.heap.size := by
    have c1 : (1 : Nat) < w.heap.size := World.block_lt_of_cell? w ⟨1, 0, none⟩ (hT.out.2 0 (by omega)).1
    omega
  have BS := BB.out.size
  have TK := Aside0.mk take_done
  have RS3 := Aside0.mk (feed_start p A2 c2 P0 w w1 HS.out BB.out)
  have RB3 := Aside0.mk (blk_alloc RB.out (.cells (rdCells (.slice A2 p.f2.length c2) (.slice none 0 0) p) 84))
  have TB3 := Aside0.mk (tabs_below (base := w.heap.size) hT.out h2w (BB.out.alloc BS (.cells (rdCells (.slice A2 p.f2.length c2) (.slice none 0 0) p) 84)))
  have B3 := Aside0.mk (BB.out.alloc BS (.cells (rdCells (.slice A2 p.f2.length c2) (.slice none 0 0) p) 84))
  have SZ3 := Aside0.mk (show w.heap.size + 1 < w1.heap.size from blk_lt RB.out)
  clear u0 u1 u2 u3 u4 u5 uf0 uf1 uf2 uf3 uf4 uf5 q0 q1 q2 q3 q4 q5 qf0 qf1 qf2 qf3 qf4 qf5 RB PB HS HC BB
  change Code.wp _ _ _ _ (w1.alloc (.cells (rdCells (.slice A2 p.f2.length c2) (.slice none 0 0) p) 84))
  generalize w1.alloc (.cells (rdCells (.slice A2 p.f2.length c2) (.slice none 0 0) p) 84) = w3 at RS3 RB3 TB3 B3 ⊢
  generalize w1.heap.size = B at RS3 BS SZ3 ⊢
  clear w1
  have haN : ((a1.size : Nat) : Int) ≤ 1000000 := by omega
  have LS := Aside0.mk (len_size a1)
  have ST := Aside0.mk (show Left w3 B (fun k => P0 k ∧ k < w.heap.size) B (.slice none 0 0) (runT (takeR (pendR 4)) (p, []) (a1.data.toList.take 0)).1 (runT (takeR (pendR 4)) (p, []) (a1.data.toList.take 0)).2 w3 from ⟨_, _, RS3.out, Below.refl _ _, Kp.refl _ _ _⟩)
  go_loopw [18] (fun i wr => ∃ j : Nat, j ≤ a1.size ∧ i = .int .i64 j ∧ Aside0 (Left w3 B (fun k => P0 k ∧ k < w.heap.size) B (.slice none 0 0) (runT (takeR (pendR 4)) (p, []) (a1.data.toList.take j)).1 (runT (takeR (pendR 4)) (p, []) (a1.data.toList.take j)).2 wr)) (fun i _ => a1.size - (RowKit.intOf i).toNat)
  case atStart => exact ⟨0, Nat.zero_le _, rfl, ST⟩
  case round =>
    obtain ⟨j, hj, rfl, HLj⟩ := hrel
    by_cases hlt : j < a1.size
    · obtain ⟨vPj, vDj, hj1, hj2, hj3⟩ := HLj.out
      have hlz : (j : Int) < (a1.size : Int) := by omega
      have hjz : (0 : Int) ≤ (j : Int) := by omega
      have HST := Aside0.mk ((runT_snoc (takeR (pendR 4)) (p, []) a1.data.toList j (by rw [LS.out]; exact hlt)).trans (by rw [byte_at a1 j hlt]))
      have hu8 := (a1[j]).toNat_lt
      have FI := run_right (a1.data.toList.take j) (p, []) HP.out
      have FL : (a1.data.toList.take j).length ≤ j := List.length_take_le _ _
      have FP := right_pend FI.1
      have FP0 := right_pend HP.out
      have TKj := Aside0.mk (TK.out ((a1[j]).toNat : Int) _ B _ B vPj vDj _ _ (by omega) (by omega) hj1 (tabs_below TB3.out (by omega) hj2) (by omega) ⟨FI.1, by omega, by have h8 := FI.2; simp only [List.length_nil] at h8; omega⟩)
      have B4 := Aside0.mk hj2
      have K4 := Aside0.mk hj3
      clear hj1 hj2 hj3 HLj FI FP FP0 FL
      go_wp2_with (go_at_call 57; refine TKj.out.mono ?_; rintro e w5 ⟨rfl, L5⟩; have L := Aside0.mk L5; clear L5)
      go_roundw
      case rel => exact ⟨j + 1, by omega, by go_num, Aside0.mk (by rw [HST.out]; exact Left.after B4.out K4.out L.out)⟩
      case measure => simp [RowKit.intOf]; omega
    · have hjs : j = a1.size := by omega
      have HF := Aside0.mk (show Left w3 B (fun k => P0 k ∧ k < w.heap.size) B (.slice none 0 0) (runT (takeR (pendR 4)) (p, []) a1.data.toList).1 (runT (takeR (pendR 4)) (p, []) a1.data.toList).2 _ from by
        have h9 := HLj.out
        rw [List.take_of_length_le (by rw [LS.out]; omega)] at h9
        exact h9)
      have hge : ¬ ((j : Int) < (a1.size : Int)) := by omega
      clear hjs HLj ST
      have HF2 := HF.out
      rw [HQ.out] at HF2
      obtain ⟨vP', vD', hf1, hf2, hf3⟩ := HF2
      obtain ⟨A', c', e'⟩ := Kd.V_slice hf1.par
      subst e'
      obtain ⟨D', k', e''⟩ := Kd.N_slice hf1.don
      subst e''
      have RBw := Aside0.mk ((hf2.block (w.heap.size + 1) (by have := SZ3.out; omega)).trans RB3.out)
      have HW := Aside0.mk hf1
      have BW := Aside0.mk ((B3.out).trans (hf2.mono BS))
      have z0 : wr.cell? ⟨B, 0, none⟩ = some (.int .i64 p'.f0) := blk_cell hf1.blk 0; have zf0 : wr.frozen? ⟨B, 0, none⟩ = false := blk_frozen hf1.blk 0; have z1 : wr.cell? ⟨B, 1, none⟩ = some (.int .i64 p'.f1) := blk_cell hf1.blk 1; have zf1 : wr.frozen? ⟨B, 1, none⟩ = false := blk_frozen hf1.blk 1; have z2 : wr.cell? ⟨B, 2, none⟩ = some (.slice A' p'.f2.length c') := blk_cell hf1.blk 2; have zf2 : wr.frozen? ⟨B, 2, none⟩ = false := blk_frozen hf1.blk 2; have z3 : wr.cell? ⟨B, 3, none⟩ = some (.int .i64 p'.f3) := blk_cell hf1.blk 3; have zf3 : wr.frozen? ⟨B, 3, none⟩ = false := blk_frozen hf1.blk 3; have z4 : wr.cell? ⟨B, 4, none⟩ = some (.string p'.f4) := blk_cell hf1.blk 4; have zf4 : wr.frozen? ⟨B, 4, none⟩ = false := blk_frozen hf1.blk 4; have z5 : wr.cell? ⟨B, 5, none⟩ = some (.string p'.f5) := blk_cell hf1.blk 5; have zf5 : wr.frozen? ⟨B, 5, none⟩ = false := blk_frozen hf1.blk 5; have z6 : wr.cell? ⟨B, 6, none⟩ = some (.slice D' d'.length k') := blk_cell hf1.blk 6; have zf6 : wr.frozen? ⟨B, 6, none⟩ = false := blk_frozen hf1.blk 6
      have q0 : wr.cell? ⟨w.heap.size + 1, 0, none⟩ = some (.int .i64 0) := blk_cell RBw.out 0; have qf0 : wr.frozen? ⟨w.heap.size + 1, 0, none⟩ = false := blk_frozen RBw.out 0; have q1 : wr.cell? ⟨w.heap.size + 1, 1, none⟩ = some (.int .i64 0) := blk_cell RBw.out 1; have qf1 : wr.frozen? ⟨w.heap.size + 1, 1, none⟩ = false := blk_frozen RBw.out 1; have q2 : wr.cell? ⟨w.heap.size + 1, 2, none⟩ = some (.slice none 0 0) := blk_cell RBw.out 2; have qf2 : wr.frozen? ⟨w.heap.size + 1, 2, none⟩ = false := blk_frozen RBw.out 2; have q3 : wr.cell? ⟨w.heap.size + 1, 3, none⟩ = some (.int .i64 0) := blk_cell RBw.out 3; have qf3 : wr.frozen? ⟨w.heap.size + 1, 3, none⟩ = false := blk_frozen RBw.out 3; have q4 : wr.cell? ⟨w.heap.size + 1, 4, none⟩ = some (.string ⟨#[]⟩) := blk_cell RBw.out 4; have qf4 : wr.frozen? ⟨w.heap.size + 1, 4, none⟩ = false := blk_frozen RBw.out 4; have q5 : wr.cell? ⟨w.heap.size + 1, 5, none⟩ = some (.string ⟨#[]⟩) := blk_cell RBw.out 5; have qf5 : wr.frozen? ⟨w.heap.size + 1, 5, none⟩ = false := blk_frozen RBw.out 5
      have neB : B ≠ w.heap.size + 1 := by have := SZ3.out; omega
      clear hf1 hf2 hf3
      go_wp2
      go_region
      go_wp2
      refine bodyPost_ret (v := .tuple #[.agg #[.int .i64 p'.f0, .int .i64 p'.f1, .slice A' p'.f2.length c', .int .i64 p'.f3, .string p'.f4, .string p'.f5], .slice D' d'.length k', .int .i64 0]) (by simp [results, Tryd.results32, go_sem, *]) rfl ?_
      exact feed_end HW.out BW.out SZ3.out
end Go.Proofs.YthipdgnbpdngpaaDoor
end
section
namespace Go.Proofs.YthipdgnbpdngpaaDoor
open Go.RowKit Go.Proofs.YthipdgnbpdngpaaDoorW.PrintWords S
set_option linter.unusedVariables false
set_option linter.unusedSimpArgs false
theorem empty_iff (s : ByteArray) : emptyB s = true ↔ s = ⟨#[]⟩ := by
  unfold emptyB
  rw [Lib.toList_data]
  constructor
  · intro h
    exact size_nil s (by
      have h2 : s.data.toList = [] := List.isEmpty_iff.1 h
      rw [← len_size, h2]; rfl)
  · intro h
    rw [h]; rfl
theorem odd_iff (l : List Int) : l.any oddB = false ↔ ∀ x ∈ l, 0 ≤ x ∧ x ≤ 9999 := by
  rw [List.any_eq_false]
  constructor
  · intro h x hx
    have h2 := h x hx
    unfold oddB at h2
    have h3 : inB x 0 9999 = true := by
      cases h9 : inB x 0 9999 with
      | true => rfl
      | false => rw [h9] at h2; exact absurd rfl h2
    exact (inB_iff _ _ _).1 h3
  · intro h x hx
    unfold oddB
    rw [(inB_iff x 0 9999).2 (h x hx)]
    simp
theorem right_iff (p : S52) : rightB p = true ↔ rightP p := by
  unfold rightB
  rw [Bool.and_eq_true, Bool.and_eq_true, Bool.and_eq_true, Bool.and_eq_true, inB_iff]
  constructor
  · rintro ⟨⟨⟨⟨⟨h0, h8⟩, hp⟩, ho⟩, hc⟩, hi⟩
    refine ⟨h0, h8, fun h => ?_, fun h => ?_, fun h => ?_, fun h => ?_, fun h => ?_, fun h h' => ?_, fun h => ?_, fun h h' => ?_⟩
    · unfold pendB at hp; rw [if_pos h, decide_eq_true_eq] at hp; exact hp
    · unfold pendB at hp; rw [if_neg h] at hp; exact (empty_iff _).1 hp
    · unfold oscB at ho; rw [if_pos h, decide_eq_true_eq] at ho; exact ho
    · unfold oscB at ho; rw [if_neg h] at ho; exact (empty_iff _).1 ho
    · unfold csiB at hc
      rw [if_pos h, Bool.and_eq_true, Bool.and_eq_true, Bool.or_eq_true, decide_eq_true_eq, beq_iff_eq, inB_iff, Bool.not_eq_true'] at hc
      exact ⟨hc.1.1, hc.1.2, (odd_iff _).1 hc.2⟩
    · unfold csiB at hc
      rw [if_neg (fun e => e.elim h h'), Bool.and_eq_true, beq_iff_eq, decide_eq_true_eq] at hc
      exact ⟨hc.1, List.eq_nil_of_length_eq_zero hc.2⟩
    · unfold interB at hi; rw [if_pos h, inB_iff] at hi; exact hi
    · unfold interB at hi; rw [if_neg (fun e => e.elim h h'), beq_iff_eq] at hi; exact hi
  · intro h
    refine ⟨⟨⟨⟨⟨h.s0, h.s8⟩, ?_⟩, ?_⟩, ?_⟩, ?_⟩
    · unfold pendB
      split
      · rename_i h0; rw [decide_eq_true_eq]; exact h.pn0 h0
      · rename_i h0; exact (empty_iff _).2 (h.pn1 h0)
    · unfold oscB
      split
      · rename_i h0; rw [decide_eq_true_eq]; exact h.os0 h0
      · rename_i h0; exact (empty_iff _).2 (h.os1 h0)
    · unfold csiB
      split
      · rename_i h0
        obtain ⟨a, b, c⟩ := h.cs0 h0
        rw [Bool.and_eq_true, Bool.and_eq_true, Bool.or_eq_true, decide_eq_true_eq, beq_iff_eq, inB_iff, Bool.not_eq_true']
        exact ⟨⟨a, b⟩, (odd_iff _).2 c⟩
      · rename_i h0
        obtain ⟨a, b⟩ := h.cs1 (fun e => h0 (.inl e)) (fun e => h0 (.inr e))
        rw [Bool.and_eq_true, beq_iff_eq, decide_eq_true_eq]
        exact ⟨a, by rw [b]; rfl⟩
    · unfold interB
      split
      · rename_i h0; rw [inB_iff]; exact h.it0 h0
      · rename_i h0; rw [beq_iff_eq]; exact h.it1 (fun e => h0 (.inl e)) (fun e => h0 (.inr e))
/-- What parse.Feed makes of a parser that may be. -/
def feedR (p : S52) (s : ByteArray) : S52 × List S62 := runT (takeR (pendR 4)) (p, []) s.data.toList
def feedT (q : S52 × List S62) (e : Int) : Int × Int × List Int × Int × ByteArray × ByteArray × List S62 × Int := (q.1.f0, q.1.f1, q.1.f2, q.1.f3, q.1.f4, q.1.f5, q.2, e)
def parse_Feed.f (a0_0 a0_1 : Int) (l0_2 : List Int) (a0_3 : Int) (a0_4 a0_5 a1 : ByteArray) : Option (Int × Int × List Int × Int × ByteArray × ByteArray × List S62 × Int) :=
  if a1.size ≤ 1000000 then (if rightB ⟨a0_0, a0_1, l0_2, a0_3, a0_4, a0_5⟩ = true then some (feedT (feedR ⟨a0_0, a0_1, l0_2, a0_3, a0_4, a0_5⟩ a1) 0) else some (feedT (toF 0, []) 1)) else none
theorem parse_Feed.calls (a0_0 a0_1 : Int) (P0_2_ : Nat → Prop) (A0_2 : Option Addr) (c0_2 : Nat) (l0_2 : List Int) (a0_3 : Int) (a0_4 a0_5 a1 : ByteArray) (r1 r2 : Int) (r3 : List Int) (r4 : Int) (r5 r6 : ByteArray) (r7 : List S62) (r8 : Int) (w : World)
    (hs0_2 : Kd.V (Kd.int .i64) 3 w w.heap.size (fun k_ => P0_2_ k_) (.slice A0_2 l0_2.length c0_2) l0_2) (h : parse_Feed.f a0_0 a0_1 l0_2 a0_3 a0_4 a0_5 a1 = some (r1, r2, r3, r4, r5, r6, r7, r8)) (hT : TabsAt w := by first | with_reducible assumption | exact tabs_here (by with_reducible assumption) (by repeat (with_reducible first | assumption | apply below_alloc | apply pw_below_drewN | apply below_drew1 | (refine Below.setCell ?_ ?_ _) | exact Aside0.out (by assumption)))) :
    Calls Tryd.prog 32 #[.agg #[.int .i64 a0_0, .int .i64 a0_1, .slice A0_2 l0_2.length c0_2, .int .i64 a0_3, .string a0_4, .string a0_5], .string a1] w fun e w' => ∃ v2_ v6_, e = .returned (.tuple #[.agg #[.int .i64 r1, .int .i64 r2, v2_, .int .i64 r4, .string r5, .string r6], v6_, .int .i64 r8]) ∧
      Kd.V (Kd.int .i64) 3 w' w.heap.size (fun k_ => (P0_2_ k_ ∨ w.heap.size ≤ k_) ∧ some k_ ≠ (v6_ : Value).ownBlock) v2_ r3 ∧ Kd.N k62 62 w' w.heap.size (fun k_ => P0_2_ k_ ∨ w.heap.size ≤ k_) v6_ r7 ∧ Below w.heap.size w w' := by
  unfold parse_Feed.f at h
  by_cases ha : a1.size ≤ 1000000
  · rw [if_pos ha] at h
    cases hR : rightB ⟨a0_0, a0_1, l0_2, a0_3, a0_4, a0_5⟩ with
    | true =>
      rw [if_pos hR] at h
      have h2 := Option.some.inj h
      unfold feedT at h2
      simp only [Prod.mk.injEq] at h2
      obtain ⟨rfl, rfl, rfl, rfl, rfl, rfl, rfl, rfl⟩ := h2
      exact feed_right ⟨a0_0, a0_1, l0_2, a0_3, a0_4, a0_5⟩ a1 A0_2 c0_2 P0_2_ w hs0_2 hT hR ((right_iff _).1 hR) ha
    | false =>
      rw [if_neg (by rw [hR]; exact Bool.false_ne_true)] at h
      have h2 := Option.some.inj h
      unfold feedT toF at h2
      simp only [Prod.mk.injEq] at h2
      obtain ⟨rfl, rfl, rfl, rfl, rfl, rfl, rfl, rfl⟩ := h2
      refine (feed_wrong ⟨a0_0, a0_1, l0_2, a0_3, a0_4, a0_5⟩ a1 A0_2 c0_2 P0_2_ w hs0_2 hT hR).mono ?_
      rintro e w' ⟨rfl, hb⟩
      exact ⟨_, _, rfl, Kd.V_nil _ _ _ _ _, Kd.N_nil _ _ _ _ _, hb⟩
  · rw [if_neg ha] at h
    cases h
end Go.Proofs.YthipdgnbpdngpaaDoor
end
