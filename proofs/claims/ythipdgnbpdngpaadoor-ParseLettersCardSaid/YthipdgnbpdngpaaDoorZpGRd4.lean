-- A copy of the text YthipdgnbpdngpaaDoorGRd4 with what this claim does not reach left out (prune.py, a program of this project).
import Derived.Test.YthipdgnbpdngpaaDoorZpGRd3
import Derived.ArgAppend
namespace Go.Proofs.YthipdgnbpdngpaaDoor
open Go.RowKit Go.Proofs.YthipdgnbpdngpaaDoorW.PrintWords Go.Proofs.YthipdgnbpdngpaaDoorW.PrintLast Go.Proofs.YthipdgnbpdngpaaDoorW.PrintMore S
set_option linter.unusedVariables false
set_option linter.unusedSimpArgs false
def vints (xs : List Int) : List Value := xs.map (fun x => Value.int .i64 x)
theorem vints_one (xs : List Int) : ∀ u ∈ vints xs, u.oneCell' = true := fun u hu => by
  unfold vints at hu
  obtain ⟨x, _, rfl⟩ := List.mem_map.1 hu
  rfl
theorem vints_len (xs : List Int) : (vints xs).length = xs.length := List.length_map ..
/-- A block whose first cells are these numbers. -/
structure IntsAt (w : World) (g : Nat) (cells : Array Value) (xs : List Int) : Prop where
  blk : w.heap[g]? = some (.cells cells 3 (0, 0))
  at_ : ∀ (j : Nat) (x : Int), xs[j]? = some x → cells[j]? = some (Value.int .i64 x)
  few : xs.length ≤ 1000000
section
variable {w w1 : World} {base g cap : Nat} {ok : Nat → Prop} {cells : Array Value} {xs : List Int} {v : Value}
theorem IntsAt.V (h : IntsAt w g cells xs) (hc : xs.length ≤ cap) (hok : ok g) : Kd.V (Kd.int .i64) 3 w base ok (.slice (some ⟨g, 0, none⟩) xs.length cap) xs := by
  refine ⟨some ⟨g, 0, none⟩, cap, rfl, hc, fun W' hW => ?_⟩
  have hb : W'.heap[g]? = some (.cells cells 3 (0, 0)) := (hW g hok (blk_lt h.blk)).trans h.blk
  refine ⟨rfl, by have := h.few; omega, fun _ => ⟨_, rfl, fun j x hj => ⟨[.int .i64 x], rfl, rfl, fun j' u hu => ?_⟩⟩⟩
  rcases j' with _ | j'
  · simp only [List.getElem?_cons_zero, Option.some.injEq] at hu
    subst hu
    have := (blk_cell hb j).trans (h.at_ j x hj)
    have hz : (Kd.int .i64).sz = 1 := rfl
    rw [hz, Nat.mul_one, Nat.add_zero]
    rw [Addr.add_lit]; simpa using this
  · simp at hu
theorem IntsAt.of_own {n : Nat} (h : w.ownsRow base 3 1 v n (vints xs)) (hn : 0 < xs.length) (hf : xs.length ≤ 1000000) :
    ∃ g cap cells, v = .slice (some ⟨g, 0, none⟩) xs.length cap ∧ base ≤ g ∧ xs.length ≤ cap ∧ IntsAt w g cells xs := by
  obtain ⟨h1, h2⟩ := h
  rw [vints_len, Nat.mul_one] at h1
  subst h1
  rcases h2 with ⟨_, h0⟩ | ⟨g, cap, cur, rfl, hb, hg, hnc, hcm, hsz, htk⟩
  · omega
  · refine ⟨g, cap, cur, rfl, hb, hnc, hg, fun j x hj => ?_, hf⟩
    rw [Nat.mul_one] at htk
    have hjl : j < xs.length := (List.getElem?_eq_some_iff.1 hj).1
    have h3 : (cur.toList.take xs.length)[j]? = (vints xs)[j]? := by rw [htk]
    rw [List.getElem?_take_of_lt hjl] at h3
    unfold vints at h3
    rw [List.getElem?_map, hj] at h3
    rw [← Array.getElem?_toList]; exact h3
theorem below_none (h : w.grownBy w1 none) : Below w.heap.size w w1 := ⟨h.os, h.tape, h.output, h.size, fun k hk => h.block k hk (by simp)⟩
theorem V_cells (h : Kd.V (Kd.int .i64) 3 w base ok v xs) (hp : 0 < xs.length) : ∃ ad c, v = .slice (some ad) xs.length c ∧ xs.length ≤ c ∧ ∀ j u, (vints xs)[j]? = some u → w.cell? (ad.add j) = some u := by
  obtain ⟨A, c, rfl, hl, hF⟩ := h
  obtain ⟨_, _, hn⟩ := Kd.F_now hF
  obtain ⟨ad, rfl, hr⟩ := hn hp
  refine ⟨ad, c, rfl, hl, fun j u hj => ?_⟩
  unfold vints at hj
  rw [List.getElem?_map] at hj
  obtain ⟨x, hx, rfl⟩ := Option.map_eq_some_iff.1 hj
  obtain ⟨c', hcl, hK, hcc⟩ := hr j x hx
  have hK' : c' = [.int .i64 x] := hK
  subst hK'
  have := hcc 0 _ rfl
  have hz : (Kd.int .i64).sz = 1 := rfl
  rwa [hz, Nat.mul_one, Nat.add_zero] at this
end
section
variable {w w1 : World} {base B g cap : Nat} {P : Nat → Prop} {vP vD : Value} {p : S52} {d : List S62} {cells : Array Value} {xs : List Int}
/-- A row of the numbers' own, made since: it may be the parser's. -/
theorem RS.okNew (h : RS w base P B vP vD p d) (hg : w.heap.size ≤ g) : ((P g ∨ base ≤ g) ∧ g ≠ B) ∧ some g ≠ vD.ownBlock := by
  have h1 := h.size
  have h2 := blk_lt h.blk
  exact ⟨⟨.inr (by omega), by omega⟩, fun e => by have := Kd.N_lt h.don g e.symm; omega⟩
theorem RS.parNew (h : RS w base P B vP vD p d) (hb : Below w.heap.size w w1) (hg : w.heap.size ≤ g) (hA : IntsAt w1 g cells xs) (hc : xs.length ≤ cap) :
    RS (w1.setCell ⟨B, 2, none⟩ (.slice (some ⟨g, 0, none⟩) xs.length cap)) base P B (.slice (some ⟨g, 0, none⟩) xs.length cap) vD ⟨p.f0, p.f1, xs, p.f3, p.f4, p.f5⟩ d :=
  (h.below hb).putPar (p' := ⟨p.f0, p.f1, xs, p.f3, p.f4, p.f5⟩) _ rfl (hA.V hc (h.okNew hg))
theorem RS.parLeft (h : RS w base P B vP vD p d) (hb : Below w.heap.size w w1) (hg : w.heap.size ≤ g) (hA : IntsAt w1 g cells xs) (hc : xs.length ≤ cap) :
    Left w base P B vD ⟨p.f0, p.f1, xs, p.f3, p.f4, p.f5⟩ d (w1.setCell ⟨B, 2, none⟩ (.slice (some ⟨g, 0, none⟩) xs.length cap)) :=
  ⟨_, _, h.parNew hb hg hA hc, (hb.mono h.size).setCell h.low _, ((Kp.refl B vD w).below hb).put _ _⟩
end
theorem info3c : (Tryd.prog.info? 3).map (fun i => (i.zero, i.size, i.bytes)) = some (some (.int .i64 0), 1, 8) := info3
/-- What slices.Clone makes, and append: a row of one's own. -/
def Fresh (w w' : World) (xs : List Int) (e : Ending) : Prop := ∃ g cap cells, e = .returned (.slice (some ⟨g, 0, none⟩) xs.length cap) ∧ w.heap.size ≤ g ∧ xs.length ≤ cap ∧ IntsAt w' g cells xs ∧ Below w.heap.size w w'
set_option maxRecDepth 100000 in
set_option maxHeartbeats 4000000 in
theorem clone_calls (w : World) (base : Nat) (ok : Nat → Prop) (v : Value) (xs : List Int) (h : Kd.V (Kd.int .i64) 3 w base ok v xs) (hp : 0 < xs.length) (hf : xs.length ≤ 1000000) :
    Calls Tryd.prog 88 #[v] w fun e w' => Fresh w w' xs e := by
  obtain ⟨ad, c, rfl, hl, hc⟩ := V_cells h hp
  obtain ⟨i0, hi, hzz⟩ := Option.map_eq_some_iff.1 info3c
  simp only [Prod.mk.injEq] at hzz
  have HI := Aside0.mk hi
  have HZ := Aside0.mk hzz
  have hlt : ad.block < w.heap.size := by
    obtain ⟨x, hx⟩ : ∃ x, xs[0]? = some x := ⟨xs[0], List.getElem?_eq_getElem hp⟩
    have := hc 0 (.int .i64 x) (by unfold vints; rw [List.getElem?_map, hx]; rfl)
    exact World.block_lt_of_cell? w _ this
  clear h hi hzz
  have hu50 := Tryd.underlying50
  have he : ∀ w : World, (binOp .eql 50 (.slice (some ad) xs.length c) (.slice none 0 0)).run Tryd.prog w = .ok (.bool false) w := fun _ => rfl
  have HC2 := Aside0.mk (fun (o : Obj) (j : Nat) (u : Value) (hj : (vints xs)[j]? = some u) => (World.cell?_of_block (Below.heap_alloc w o _ (World.block_lt_of_cell? w _ (hc j u hj)))).trans (hc j u hj))
  have HV := Aside0.mk (vints_one xs)
  have HN := Aside0.mk (vints_len xs)
  clear hc
  go_enter Tryd.func88, Tryd.ntmps88
  go_wp2_with (refine wpList_append_grows _ (by rfl) _ _ 50 (by rfl) 3 i0 _ 1 8 Tryd.underlying50 HI.out HZ.out.1 HZ.out.2.1 HZ.out.2.2 rfl (by omega) (some ⟨w.heap.size, 0, none⟩) 0 0 [] (by rfl) (fun h => by cases h) rfl (fun _ _ _ _ h => by simp at h) ad xs.length c (vints xs) (by rfl) (by rw [HN.out]; omega) (HC2.out _) HV.out (by omega) (by unfold maxLen; omega) (by omega) ?_; intro v' w' hown hg; have HOWN := Aside0.mk hown; have HG := Aside0.mk hg; clear hown hg)
  refine bodyPost_ret (results_tmp rfl _ _ _) rfl ?_
  obtain ⟨g, cap, cells, rfl, h1, h2, h3⟩ := IntsAt.of_own (xs := xs) HOWN.out hp hf
  exact ⟨g, cap, cells, rfl, by simp at h1; omega, h2, h3, (below_alloc (Below.refl _ _) _).trans ((below_none HG.out).mono (by simp))⟩
set_option maxRecDepth 100000 in
set_option maxHeartbeats 4000000 in
theorem clip_calls (w : World) (A : Option Addr) (n c : Nat) (hl : n ≤ c) :
    Calls Tryd.prog 89 #[.slice A n c] w fun e w' => e = .returned (.slice A n n) ∧ w = w' := by
  have hu50 := Tryd.underlying50
  go_enter Tryd.func89, Tryd.ntmps89
  go_wp2
  go_ret
  exact ⟨rfl, rfl⟩
end Go.Proofs.YthipdgnbpdngpaaDoor
