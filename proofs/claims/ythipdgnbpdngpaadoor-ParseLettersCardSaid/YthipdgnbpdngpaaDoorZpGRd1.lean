-- A copy of the text YthipdgnbpdngpaaDoorGRd1 with what this claim does not reach left out (prune.py, a program of this project).
import Derived.Test.YthipdgnbpdngpaaDoorZpGRd0
import Derived.Deep.RegionHeld3
import Derived.Deep.RegionLaw
namespace Go.Proofs.YthipdgnbpdngpaaDoor
open Go.RowKit Go.Proofs.YthipdgnbpdngpaaDoorW.PrintWords Go.Proofs.YthipdgnbpdngpaaDoorW.PrintLast Go.Proofs.YthipdgnbpdngpaaDoorW.PrintMore S
set_option linter.unusedVariables false
set_option linter.unusedSimpArgs false
/-- append(v, x) at a step of a region that draws: x's one element lies at ad, in whatever world; what the elements lead to is only read. -/
theorem step_append_N {α : Type} {P : Program} {ops : Array Oper} {o : Oper} {a : Act} {Q : Exit → Act → World → Prop} {Kc : Act → World → Prop} {E : Prop} (d : Kd α) {W : World} (hgd : o.guard = none) (s x : Operand) (t : TypeId)
    (ho : o.op = .call { callee := .builtin .append, args := #[s, x], argTypes := #[t, t] }) (base : Nat) (e : TypeId) (z : Value) (bytes : Nat)
    (ht : P.underlying t = some (.slice e)) (hinfo : (P.info? e).map (fun i => (i.zero, i.size, i.bytes)) = some (some z, d.sz, bytes)) (hz : z.cells.size = d.sz) (hs0 : 0 < d.sz) (hb0 : 0 < bytes)
    (v : Value) (xs : List α) (p : α) (cs : List Value) (ok okp : Nat → Prop) (hs : a.eval s = v) (ad : Addr) (hx : a.eval x = .slice (some ad) 1 1) (hnews : ∀ j u, cs[j]? = some u → W.cell? (ad.add j) = some u)
    (hp : Kd.FK d W okp p cs) (hokp : ∀ k, okp k → ok k ∧ some k ≠ v.ownBlock) (hfresh : ∀ k, W.heap.size ≤ k → ok k)
    (HO : Kd.N d e W base ok v xs) (hbase : base ≤ W.heap.size) (hl : (xs.length + 1) * bytes ≤ 140737488355328)
    (h : ∀ g cap w1, Kd.N d e w1 base ok (.slice (some ⟨g, 0, none⟩) (xs.length + 1) cap) (xs ++ [p]) → W.grownBy w1 v.ownBlock → (v.ownBlock = some g ∨ g = W.heap.size) → Kc (a.put o.dst (.slice (some ⟨g, 0, none⟩) (xs.length + 1) cap)) w1) :
    if Region.wanted o (yielded ops a.tmps) = true then Oper.wp P o a W Kc Q else E := by
  obtain ⟨h0, rows, hlr, hR, hf⟩ := HO
  obtain ⟨_, inner, hown, hr⟩ := Kd.raw_any hR
  obtain ⟨i0, hi, hzz⟩ := Option.map_eq_some_iff.1 hinfo
  simp only [Prod.mk.injEq] at hzz
  obtain ⟨hz0, hz1, hz2⟩ := hzz
  have hlen : xs.length + 1 ≤ 140737488355328 := Nat.le_trans (Nat.le_mul_of_pos_right _ hb0) hl
  have hkl : cs.length = d.sz := d.K_len (Kd.FK_now hp)
  have hk1 := d.K_one (Kd.FK_now hp)
  refine step_append_lies W hgd s x t ho base e i0 z d.sz bytes ht hi hz0 hz1 hz2 hz hs0 v rows.length inner hs hown ad 1 1 cs hx (by rw [hkl, Nat.one_mul]) hnews hk1 (by omega) (by rw [hlr]; unfold maxLen; omega) (by rw [hlr]; exact hl) hbase _ rfl ?_
  intro g cap w1 hown1 hgrow hat hlt
  rw [hlr] at hown1
  have hat' : (Value.slice (some ⟨g, 0, none⟩) (xs.length + 1) cap).ownBlock = v.ownBlock ∨ ∃ b, (Value.slice (some ⟨g, 0, none⟩) (xs.length + 1) cap).ownBlock = some b ∧ W.heap.size ≤ b := by
    rcases hat with hat | hat
    · exact .inl hat.symm
    · exact .inr ⟨g, rfl, by omega⟩
  rw [hlr]
  refine h g cap w1 (Kd.N_appended h0 hlr hf (ys := [p]) (news := [cs]) rfl (fun j y c hy hc => ?_) hokp hfresh ⟨fun _ _ => trivial, inner ++ cs, ?_, ?_⟩ hgrow hat') hgrow hat
  · rcases j with _ | j
    · simp only [List.getElem?_cons_zero, Option.some.injEq] at hy hc
      rw [← hy, ← hc]; exact hp
    · simp at hy
  · rw [List.length_append, List.length_singleton, hlr]; exact hown1
  · exact Reps.snoc hr ⟨rfl, hkl, hk1⟩ hkl
section
variable {w W w4 : World} {base B : Nat} {P : Nat → Prop} {vP vD v1 : Value} {p : S52} {d d' : List S62}
theorem RS.drew (h : RS W base P B vP vD p d) : RS W.drew base P B vP vD p d := ⟨h.blk, h.low, h.old, Kd.V_drew h.par, Kd.N_drew h.don⟩
theorem RS.apart (h : RS W base P B vP vD p d) : some B ≠ vD.ownBlock := Kd.N_away h.don (fun k hk => hk.2)
theorem RS.done' (h : RS W base P B vP vD p d) (hg : W.grownBy w4 vD.ownBlock) (hN : Kd.N k62 62 w4 base (fun k => (P k ∨ base ≤ k) ∧ k ≠ B) v1 d') (hat : v1.ownBlock = vD.ownBlock ∨ ∃ b, v1.ownBlock = some b ∧ W.heap.size ≤ b) :
    RS (w4.setCell ⟨B, 6, none⟩ v1) base P B vP v1 p d' :=
  ⟨blk_put (blk_grown h.blk hg h.apart) 6 v1 rfl, h.low, h.old, Kd.V_far (p := ⟨B, 6, none⟩) (Kd.V_after h.par hg hat) (fun k hk => hk.1.2) v1, Kd.N_far (p := ⟨B, 6, none⟩) hN (fun k hk => hk.2) v1⟩
theorem done_below (h : RS W base P B vP vD p d) (hb : Below base w W) (hg : W.grownBy w4 vD.ownBlock) : Below base w (w4.setCell ⟨B, 6, none⟩ v1) :=
  (hb.grown hg h.size (Kd.N_base h.don)).setCell h.low _
theorem do_left {g n cap : Nat} (hg : W.grownBy w4 vD.ownBlock) (hN : Kd.N k62 62 w4 base (fun k => (P k ∨ base ≤ k) ∧ k ≠ B) (.slice (some ⟨g, 0, none⟩) n cap) d') (h : RS W base P B vP vD p d) (hb : Below base w W) (hk : Kp B vD vD w W) (hat : vD.ownBlock = some g ∨ g = W.heap.size) :
    Left w base P B vD p d' (w4.setCell ⟨B, 6, none⟩ (.slice (some ⟨g, 0, none⟩) n cap)) :=
  ⟨vP, .slice (some ⟨g, 0, none⟩) n cap, h.done' hg hN (hat.elim (fun e => .inl e.symm) (fun e => .inr ⟨g, rfl, Nat.le_of_eq e.symm⟩)), done_below h hb hg, (hk.done (vD2 := .slice (some ⟨g, 0, none⟩) n cap) hg (hat.elim (fun e => .inl e.symm) (fun e => .inr ⟨g, rfl, Nat.le_of_eq e.symm⟩))).put _ _⟩
end
theorem info62c : (Tryd.prog.info? 62).map (fun i => (i.zero, i.size, i.bytes)) = some (some (.agg #[(.int .i64 0), (.int .i32 0), (.int .i64 0), (.int .i64 0), (.slice none 0 0), (.int .i64 0), (.string ⟨#[]⟩)]), 7, 80) := info62
set_option maxRecDepth 100000 in
set_option maxHeartbeats 4000000 in
theorem do_calls (x : S62) (A4 : Option Addr) (c4 : Nat) (w : World) (base : Nat) (P : Nat → Prop) (B : Nat) (vP vD : Value) (p : S52) (d : List S62) (h : RS w base P B vP vD p d)
    (hx : Kd.V (Kd.int .i64) 3 w base (fun k => ((P k ∨ base ≤ k) ∧ k ≠ B) ∧ some k ≠ vD.ownBlock) (.slice A4 x.f4.length c4) x.f4) (hd : d.length ≤ 1000000000) :
    Calls Tryd.prog 78 #[.pointer (some ⟨B, 0, none⟩), .agg #[.int .i64 x.f0, .int .i32 x.f1, .int .i64 x.f2, .int .i64 x.f3, .slice A4 x.f4.length c4, .int .i64 x.f5, .string x.f6]] w fun e w' => e = .returned (.tuple #[]) ∧ Left w base P B vD p (d ++ [x]) w' := by
  have hz6 : w.cell? ⟨B, 6, none⟩ = some vD := h.cell 6
  have hf6 := h.frozen 6
  have hB : B < w.heap.size := blk_lt h.blk
  have hne : B ≠ w.heap.size := by omega
  have H := Aside0.mk h
  have HX := Aside0.mk hx
  have hu62 := Tryd.underlying62
  have hu54 := Tryd.underlying54
  clear h hx
  go_enter Tryd.func78, Tryd.ntmps78
  go_wp2
  have HR2 := Aside0.mk (H.out.below (below_alloc (Below.refl _ _) (.cells #[.int .i64 x.f0, .int .i32 x.f1, .int .i64 x.f2, .int .i64 x.f3, .slice A4 x.f4.length c4, .int .i64 x.f5, .string x.f6] 62)))
  have BX := Aside0.mk (blk_new w (.cells #[.int .i64 x.f0, .int .i32 x.f1, .int .i64 x.f2, .int .i64 x.f3, .slice A4 x.f4.length c4, .int .i64 x.f5, .string x.f6] 62))
  have HX2 := Aside0.mk (Kd.V_alloc HX.out (.cells #[.int .i64 x.f0, .int .i32 x.f1, .int .i64 x.f2, .int .i64 x.f3, .slice A4 x.f4.length c4, .int .i64 x.f5, .string x.f6] 62))
  have hs2 : (w.alloc (.cells #[.int .i64 x.f0, .int .i32 x.f1, .int .i64 x.f2, .int .i64 x.f3, .slice A4 x.f4.length c4, .int .i64 x.f5, .string x.f6] 62)).heap.size = w.heap.size + 1 := by simp
  replace hs2 := Aside0.mk hs2
  have HB2 := Aside0.mk (below_alloc (Below.refl _ w) (.cells #[.int .i64 x.f0, .int .i32 x.f1, .int .i64 x.f2, .int .i64 x.f3, .slice A4 x.f4.length c4, .int .i64 x.f5, .string x.f6] 62))
  have HBb := Aside0.mk ((Below.refl base w).alloc H.out.size (.cells #[.int .i64 x.f0, .int .i32 x.f1, .int .i64 x.f2, .int .i64 x.f3, .slice A4 x.f4.length c4, .int .i64 x.f5, .string x.f6] 62))
  have HKb := Aside0.mk ((Kp.refl B vD w).alloc (.cells #[.int .i64 x.f0, .int .i32 x.f1, .int .i64 x.f2, .int .i64 x.f3, .slice A4 x.f4.length c4, .int .i64 x.f5, .string x.f6] 62))
  generalize w.alloc (.cells #[.int .i64 x.f0, .int .i32 x.f1, .int .i64 x.f2, .int .i64 x.f3, .slice A4 x.f4.length c4, .int .i64 x.f5, .string x.f6] 62) = w2 at HR2 BX HX2 hs2 HB2 HBb HKb ⊢
  have yz6 : w2.cell? ⟨B, 6, none⟩ = some vD := HR2.out.cell 6
  have yx0 : w2.cell? ⟨w.heap.size, 0, none⟩ = some (.int .i64 x.f0) := blk_cell BX.out 0
  have yx1 : w2.cell? ⟨w.heap.size, 1, none⟩ = some (.int .i32 x.f1) := blk_cell BX.out 1
  have yx2 : w2.cell? ⟨w.heap.size, 2, none⟩ = some (.int .i64 x.f2) := blk_cell BX.out 2
  have yx3 : w2.cell? ⟨w.heap.size, 3, none⟩ = some (.int .i64 x.f3) := blk_cell BX.out 3
  have yx4 : w2.cell? ⟨w.heap.size, 4, none⟩ = some (.slice A4 x.f4.length c4) := blk_cell BX.out 4
  have yx5 : w2.cell? ⟨w.heap.size, 5, none⟩ = some (.int .i64 x.f5) := blk_cell BX.out 5
  have yx6 : w2.cell? ⟨w.heap.size, 6, none⟩ = some (.string x.f6) := blk_cell BX.out 6
  have HF := Aside0.mk (k62_mkF w2 (fun k => ((P k ∨ base ≤ k) ∧ k ≠ B) ∧ some k ≠ vD.ownBlock) x (A4 := A4) (c4 := c4) (Kd.V_at HX2.out).2.1 (Kd.V_at HX2.out).2.2)
  clear hz6 hf6
  have ne2 : B ≠ w2.heap.size := by have := blk_lt HR2.out.blk; omega
  have ne3 : w.heap.size ≠ w2.heap.size := by have := hs2.out; omega
  have ya6 : ∀ o, (w2.alloc o).cell? ⟨B, 6, none⟩ = some vD := fun o => blk_cell (blk_alloc HR2.out.blk o) 6
  go_region_law ((refine step_append_N k62 (by rfl) _ _ _ (by rfl) base 62 _ 80 Tryd.underlying54 info62c rfl (by decide) (by omega) vD d x [.int .i64 x.f0, .int .i32 x.f1, .int .i64 x.f2, .int .i64 x.f3, .slice A4 x.f4.length c4, .int .i64 x.f5, .string x.f6] (fun k => (P k ∨ base ≤ k) ∧ k ≠ B) (fun k => ((P k ∨ base ≤ k) ∧ k ≠ B) ∧ some k ≠ vD.ownBlock) (by rfl) ⟨w2.heap.size, 0, none⟩ (by rfl) (World.news_of_block (heap_alloc_new w2 _)) (Kd.FK_step HF.out (fun k _ hk => Below.heap_alloc w2 _ k hk)) (fun k hk => hk) (fun k hk => ⟨.inr (by have := HR2.out.size; simp at hk; omega), by have h2 := blk_lt HR2.out.blk; simp at hk; omega⟩) (by repeat (first | exact Kd.N_alloc HR2.out.don _ | apply Kd.N_drew | apply Kd.N_drewN)) (by have := HR2.out.size; simp; omega) (by omega) ?_; intro g cap w4 hN hgrow hat; have b4 := Aside0.mk (blk_grown (by exact blk_alloc HR2.out.blk _) hgrow (Kd.N_away HR2.out.don (fun k hk => hk.2))); have b5 := Aside0.mk (blk_grown (by exact blk_alloc BX.out _) hgrow (fun he => Nat.lt_irrefl _ (Kd.N_lt H.out.don _ he.symm))); have yw6 : w4.cell? ⟨B, 6, none⟩ = some vD := blk_cell b4.out 6; have fw6 : w4.frozen? ⟨B, 6, none⟩ = false := blk_frozen b4.out 6; have yv0 : w4.cell? ⟨w.heap.size, 0, none⟩ = some (.int .i64 x.f0) := blk_cell b5.out 0; have yv1 : w4.cell? ⟨w.heap.size, 1, none⟩ = some (.int .i32 x.f1) := blk_cell b5.out 1; have yv2 : w4.cell? ⟨w.heap.size, 2, none⟩ = some (.int .i64 x.f2) := blk_cell b5.out 2; have yv3 : w4.cell? ⟨w.heap.size, 3, none⟩ = some (.int .i64 x.f3) := blk_cell b5.out 3; have yv4 : w4.cell? ⟨w.heap.size, 4, none⟩ = some (.slice A4 x.f4.length c4) := blk_cell b5.out 4; have yv5 : w4.cell? ⟨w.heap.size, 5, none⟩ = some (.int .i64 x.f5) := blk_cell b5.out 5; have yv6 : w4.cell? ⟨w.heap.size, 6, none⟩ = some (.string x.f6) := blk_cell b5.out 6))
  all_goals
    go_end0
    refine ⟨rfl, do_left (vP := vP) (d := d) hgrow hN ?_ ?_ ?_ (by first | exact hat | simpa using hat)⟩
    · repeat (first | exact HR2.out.below (below_alloc (Below.refl _ _) _) | apply RS.drew)
    · repeat (first | exact HBb.out.alloc (by have := HR2.out.size; omega) _ | apply below_drew)
    · repeat (first | exact HKb.out.alloc _ | apply Kp.drew)
end Go.Proofs.YthipdgnbpdngpaaDoor
