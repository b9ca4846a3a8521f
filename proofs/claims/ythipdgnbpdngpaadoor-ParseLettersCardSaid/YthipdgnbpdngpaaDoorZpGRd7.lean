-- A copy of the text YthipdgnbpdngpaaDoorGRd7 with what this claim does not reach left out (prune.py, a program of this project).
import Derived.Test.YthipdgnbpdngpaaDoorZpGRd6
namespace Go.Proofs.YthipdgnbpdngpaaDoor
open Go.RowKit Go.Proofs.YthipdgnbpdngpaaDoorW.PrintWords Go.Proofs.YthipdgnbpdngpaaDoorW.PrintLast Go.Proofs.YthipdgnbpdngpaaDoorW.PrintMore S
set_option linter.unusedVariables false
set_option linter.unusedSimpArgs false
def csiSemi (p : S52) (l : List Int) : S52 := if l.length = 16 then toF 5 else withPar p (l ++ [0])
theorem vints_snoc (l : List Int) (x : Int) : vints l ++ [.int .i64 x] = vints (l ++ [x]) := by unfold vints; rw [List.map_append]; rfl
set_option maxRecDepth 100000 in
set_option maxHeartbeats 4000000 in
theorem csi_semi (c : Int) (l : List Int) (k : Nat) (w : World) (base : Nat) (P : Nat → Prop) (B : Nat) (vP vD : Value) (p : S52) (d : List S62) (h : RS w base P B vP vD p d) (hd : d.length ≤ 1000000000) (hl0 : parF p.f2 = l) (hk0 : l.length = k + 1) (hk2 : k ≤ 15) (hc : c = 59) :
    Calls Tryd.prog 71 #[.pointer (some ⟨B, 0, none⟩), .int .i64 c] w fun e w' => e = .returned (.tuple #[]) ∧ Left w base P B vD (csiSemi p l) d w' := by
  have ti : inB c 48 57 = false := by subst hc; rfl
  have tc : (c == (59 : Int)) = true := by subst hc; rfl
  obtain ⟨i0, hi, hzz⟩ := Option.map_eq_some_iff.1 info3c
  simp only [Prod.mk.injEq] at hzz
  have HI := Aside0.mk hi
  have HZ := Aside0.mk hzz
  have hl := Aside0.mk hl0
  have hk := Aside0.mk hk0
  have HP := Aside0.mk (show 0 < (withPar p l).f2.length from (by show 0 < l.length; omega))
  have HN := Aside0.mk (show (vints l).length = (k + 1) * 1 by rw [vints_len, hk0, Nat.mul_one])
  have HF := Aside0.mk (show (l ++ [0]).length ≤ 1000000 by rw [List.length_append, hk0]; simp; omega)
  have H := Aside0.mk h
  have hu50 := Tryd.underlying50
  have hu52 := Tryd.underlying52
  unfold csiSemi
  clear h hl0 hi hzz hc
  by_cases t16 : k = 15
  · rw [if_pos (by omega)]
    have ta : (((k : Int) + 1) == 16) = true := by subst t16; rfl
    clear hk0 t16
    go_enter Tryd.func71, Tryd.ntmps71
    go_wp2_with (first | (go_at_call 58; (with_reducible refine (in_calls _ _ _ _).mono ?_); rintro e w1 ⟨rfl, rfl⟩) | (go_at_call 87; (with_reducible refine (param_to _ base P B _ _ p d l hl.out H.out).mono ?_); rintro e w1 ⟨rfl, vP1, vD1, h1, hb1, hk1⟩; obtain ⟨ad, c1, e1, hl1, hcc⟩ := V_cells h1.par HP.out; subst e1; have z2 : w1.cell? ⟨B, 2, none⟩ = some (.slice (some ad) (k + 1) c1) := (h1.cell 2).trans (by rw [← hk.out]; rfl); have zf2 : w1.frozen? ⟨B, 2, none⟩ = false := h1.frozen 2; have CL := Aside0.mk (show k + 1 ≤ c1 from hk.out ▸ hl1); have HC2 := Aside0.mk (fun (o : Obj) (j : Nat) (u : Value) (hj : (vints l)[j]? = some u) => (World.cell?_of_block (Below.heap_alloc w1 o _ (World.block_lt_of_cell? w1 _ (hcc j u hj)))).trans (hcc j u hj)); have H1 := Aside0.mk h1; have B1 := Aside0.mk hb1; have K1 := Aside0.mk hk1; clear h1 hb1 hk1 hcc hl1) | (go_at_call 79; (with_reducible refine (to_calls _ _ base P B _ _ _ _ (by first | exact H1.out | exact H.out)).mono ?_); rintro e w2 ⟨rfl, L2⟩; have L := Aside0.mk L2; clear L2))
    all_goals
      first | go_end0 | ((try simp only [Exit.inBlock, Exit.then]); refine bodyPost_ret (results_none rfl _ _ _) rfl ?_)
      exact ⟨rfl, Left.after B1.out K1.out L.out⟩
  · rw [if_neg (by omega)]
    have ta : (((k : Int) + 1) == 16) = false := beq_eq_false_iff_ne.2 (by omega)
    clear hk0 t16
    go_enter Tryd.func71, Tryd.ntmps71
    go_wp2_with (first | (go_at_call 58; (with_reducible refine (in_calls _ _ _ _).mono ?_); rintro e w1 ⟨rfl, rfl⟩) | (go_at_call 87; (with_reducible refine (param_to _ base P B _ _ p d l hl.out H.out).mono ?_); rintro e w1 ⟨rfl, vP1, vD1, h1, hb1, hk1⟩; obtain ⟨ad, c1, e1, hl1, hcc⟩ := V_cells h1.par HP.out; subst e1; have z2 : w1.cell? ⟨B, 2, none⟩ = some (.slice (some ad) (k + 1) c1) := (h1.cell 2).trans (by rw [← hk.out]; rfl); have zf2 : w1.frozen? ⟨B, 2, none⟩ = false := h1.frozen 2; have CL := Aside0.mk (show k + 1 ≤ c1 from hk.out ▸ hl1); have HC2 := Aside0.mk (fun (o : Obj) (j : Nat) (u : Value) (hj : (vints l)[j]? = some u) => (World.cell?_of_block (Below.heap_alloc w1 o _ (World.block_lt_of_cell? w1 _ (hcc j u hj)))).trans (hcc j u hj)); have H1 := Aside0.mk h1; have B1 := Aside0.mk hb1; have K1 := Aside0.mk hk1; clear h1 hb1 hk1 hcc hl1) | (go_at_call 89; (with_reducible refine (clip_calls _ _ _ _ CL.out).mono ?_); rintro e w2 ⟨rfl, rfl⟩) | (refine wpList_append_grows _ (by rfl) _ _ 50 (by rfl) 3 i0 _ 1 8 Tryd.underlying50 HI.out HZ.out.1 HZ.out.2.1 HZ.out.2.2 rfl (by omega) (some ad) (k + 1) (k + 1) (vints l) (by rfl) (fun h => by cases h) HN.out (fun b hb => by cases hb; exact HC2.out _) ⟨w1.heap.size, 0, none⟩ 1 1 [.int .i64 0] (by rfl) rfl (World.news_of_block (heap_alloc_new w1 _)) (vints_one [0]) (by omega) (by unfold maxLen; omega) (by omega) ?_; intro v4 w4 hown hg; obtain ⟨g, cap, cells, rfl, hg1, hg2, hg3⟩ := IntsAt.of_own (xs := l ++ [0]) (vints_snoc l 0 ▸ hown) (by simp) HF.out; have G1 := Aside0.mk hg1; have G2 := Aside0.mk hg2; have G3 := Aside0.mk hg3; have y2 : w4.cell? ⟨B, 2, none⟩ = some (.slice (some ad) (k + 1) c1) := (blk_cell (blk_grown (by exact blk_alloc H1.out.blk _) hg (by simp)) 2).trans ((H1.out.cell 2).symm.trans z2); have yf2 : w4.frozen? ⟨B, 2, none⟩ = false := blk_frozen (blk_grown (by exact blk_alloc H1.out.blk _) hg (by simp)) 2; have HG := Aside0.mk hg; clear hown hg hg1 hg2 hg3))
    go_end0
    have h1 := G1.out
    refine ⟨rfl, Left.after B1.out K1.out ?_⟩
    have h7 := H1.out.parLeft (xs := l ++ [0]) ((below_alloc (Below.refl _ _) _).trans ((below_none HG.out).mono (by simp))) (by simp at h1; omega) G3.out G2.out
    rw [List.length_append] at h7
    exact h7
def csiP (p : S52) (c : Int) : S52 :=
  if inB c 48 57 = true then withPar p (csiRow (parF p.f2) c) else if c = 59 then csiSemi p (parF p.f2) else if inB c 60 63 = true ∧ p.f2.length = 0 ∧ p.f1 = 0 then ⟨p.f0, c, p.f2, p.f3, p.f4, p.f5⟩
  else if inB c 32 47 = true then ⟨4, p.f1, p.f2, c, p.f4, p.f5⟩ else if inB c 64 126 = true then toF 0 else if c = 127 then p else toF 5
def csiD (p : S52) (d : List S62) (c : Int) : List S62 := if inB c 64 126 = true then dispD p d c else d
theorem inB_iff (n a b : Int) : inB n a b = true ↔ a ≤ n ∧ n ≤ b := by unfold inB; simp
theorem inB_not (n a b : Int) : inB n a b = false ↔ n < a ∨ b < n := by
  unfold inB
  simp
  constructor
  · intro h
    by_cases h1 : a ≤ n
    · exact .inr (h h1)
    · exact .inl (by omega)
  · intro h h1
    omega
set_option maxRecDepth 100000 in
set_option maxHeartbeats 4000000 in
theorem csi_rest (c : Int) (w : World) (base : Nat) (P : Nat → Prop) (B : Nat) (vP vD : Value) (p : S52) (d : List S62) (h : RS w base P B vP vD p d) (hd : d.length ≤ 1000000000) (h1 : inB c 48 57 = false) (h2 : c ≠ 59) :
    Calls Tryd.prog 71 #[.pointer (some ⟨B, 0, none⟩), .int .i64 c] w fun e w' => e = .returned (.tuple #[]) ∧ Left w base P B vD (csiP p c) (csiD p d c) w' := by
  unfold csiP csiD
  rw [if_neg (by rw [h1]; simp), if_neg h2]
  have t59 : (c == (59 : Int)) = false := beq_eq_false_iff_ne.2 h2
  obtain ⟨A4, c4, e4⟩ := Kd.V_slice h.par
  subst e4
  have z0 : w.cell? ⟨B, 0, none⟩ = some (.int .i64 p.f0) := h.cell 0
  have z1 : w.cell? ⟨B, 1, none⟩ = some (.int .i64 p.f1) := h.cell 1
  have z2 : w.cell? ⟨B, 2, none⟩ = some (.slice A4 p.f2.length c4) := h.cell 2
  have z3 : w.cell? ⟨B, 3, none⟩ = some (.int .i64 p.f3) := h.cell 3
  have zf0 : w.frozen? ⟨B, 0, none⟩ = false := h.frozen 0
  have zf1 : w.frozen? ⟨B, 1, none⟩ = false := h.frozen 1
  have zf3 : w.frozen? ⟨B, 3, none⟩ = false := h.frozen 3
  have H := Aside0.mk h
  have hu52 := Tryd.underlying52
  clear h h2
  by_cases t60 : inB c 60 63 = true
  · have r60 := (inB_iff _ _ _).1 t60
    have t32 : inB c 32 47 = false := (inB_not _ _ _).2 (by omega)
    have t64 : inB c 64 126 = false := (inB_not _ _ _).2 (by omega)
    have t127 : (c != (127 : Int)) = true := by simp; omega
    rw [if_neg (c := inB c 64 126 = true) (by rw [t64]; simp)]
    by_cases tl : p.f2.length = 0
    · have tl1 : ((p.f2.length : Int) == 0) = true := by simp [tl]
      by_cases tp : p.f1 = 0
      · have tp1 : (p.f1 == (0 : Int)) = true := by simp [tp]
        rw [if_pos ⟨t60, tl, tp⟩]
        clear tl tp r60
        go_enter Tryd.func71, Tryd.ntmps71
        go_wp2_with (first | (go_at_call 58; (with_reducible refine (in_calls _ _ _ _).mono ?_); rintro e w1 ⟨rfl, rfl⟩) | (go_at_call 90; (with_reducible refine (dispatch_calls _ _ base P B _ _ p d H.out hd).mono ?_); rintro e w2 ⟨rfl, L2⟩; have L := Aside0.mk L2; clear L2) | (go_at_call 79; (with_reducible refine (to_calls _ _ base P B _ _ p _ (by first | exact H1.out | exact H.out)).mono ?_); rintro e w2 ⟨rfl, L2⟩; have L := Aside0.mk L2; clear L2))
        all_goals
          first | go_end0 | ((try simp only [Exit.inBlock, Exit.then]); refine bodyPost_ret (results_none rfl _ _ _) rfl ?_)
          exact ⟨rfl, _, _, H.out.put 1 (.int .i64 c) ⟨p.f0, c, p.f2, p.f3, p.f4, p.f5⟩ rfl rfl, (Below.refl _ _).setCell H.out.low _, (Kp.refl _ _ _).put _ _⟩
      · have tp1 : (p.f1 == (0 : Int)) = false := beq_eq_false_iff_ne.2 tp
        rw [if_neg (fun hh => tp hh.2.2), if_neg (by rw [t32]; simp), if_neg (by omega)]
        clear tl tp r60
        go_enter Tryd.func71, Tryd.ntmps71
        go_wp2_with (first | (go_at_call 58; (with_reducible refine (in_calls _ _ _ _).mono ?_); rintro e w1 ⟨rfl, rfl⟩) | (go_at_call 90; (with_reducible refine (dispatch_calls _ _ base P B _ _ p d H.out hd).mono ?_); rintro e w2 ⟨rfl, L2⟩; have L := Aside0.mk L2; clear L2) | (go_at_call 79; (with_reducible refine (to_calls _ _ base P B _ _ p _ (by first | exact H1.out | exact H.out)).mono ?_); rintro e w2 ⟨rfl, L2⟩; have L := Aside0.mk L2; clear L2))
        all_goals
          first | go_end0 | ((try simp only [Exit.inBlock, Exit.then]); refine bodyPost_ret (results_none rfl _ _ _) rfl ?_)
          first | exact ⟨rfl, Left.after B1.out K1.out L.out⟩ | exact ⟨rfl, L.out⟩ | exact ⟨rfl, _, _, H.out, Below.refl _ _, Kp.refl _ _ _⟩
    · have tl1 : ((p.f2.length : Int) == 0) = false := beq_eq_false_iff_ne.2 (by omega)
      rw [if_neg (fun hh => tl hh.2.1), if_neg (by rw [t32]; simp), if_neg (by omega)]
      clear tl r60
      go_enter Tryd.func71, Tryd.ntmps71
      go_wp2_with (first | (go_at_call 58; (with_reducible refine (in_calls _ _ _ _).mono ?_); rintro e w1 ⟨rfl, rfl⟩) | (go_at_call 90; (with_reducible refine (dispatch_calls _ _ base P B _ _ p d H.out hd).mono ?_); rintro e w2 ⟨rfl, L2⟩; have L := Aside0.mk L2; clear L2) | (go_at_call 79; (with_reducible refine (to_calls _ _ base P B _ _ p _ (by first | exact H1.out | exact H.out)).mono ?_); rintro e w2 ⟨rfl, L2⟩; have L := Aside0.mk L2; clear L2))
      all_goals
        first | go_end0 | ((try simp only [Exit.inBlock, Exit.then]); refine bodyPost_ret (results_none rfl _ _ _) rfl ?_)
        first | exact ⟨rfl, Left.after B1.out K1.out L.out⟩ | exact ⟨rfl, L.out⟩ | exact ⟨rfl, _, _, H.out, Below.refl _ _, Kp.refl _ _ _⟩
  · rw [if_neg (fun hh => t60 hh.1)]
    replace t60 := eq_false_of_ne_true t60
    by_cases t32 : inB c 32 47 = true
    · have r32 := (inB_iff _ _ _).1 t32
      have t64 : inB c 64 126 = false := (inB_not _ _ _).2 (by omega)
      rw [if_pos t32, if_neg (by rw [t64]; simp)]
      clear r32
      go_enter Tryd.func71, Tryd.ntmps71
      go_wp2_with (first | (go_at_call 58; (with_reducible refine (in_calls _ _ _ _).mono ?_); rintro e w1 ⟨rfl, rfl⟩) | (go_at_call 90; (with_reducible refine (dispatch_calls _ _ base P B _ _ p d H.out hd).mono ?_); rintro e w2 ⟨rfl, L2⟩; have L := Aside0.mk L2; clear L2) | (go_at_call 79; (with_reducible refine (to_calls _ _ base P B _ _ p _ (by first | exact H1.out | exact H.out)).mono ?_); rintro e w2 ⟨rfl, L2⟩; have L := Aside0.mk L2; clear L2))
      all_goals
        first | go_end0 | ((try simp only [Exit.inBlock, Exit.then]); refine bodyPost_ret (results_none rfl _ _ _) rfl ?_)
        exact ⟨rfl, _, _, (H.out.put 0 (.int .i64 4) ⟨4, p.f1, p.f2, p.f3, p.f4, p.f5⟩ rfl rfl).put 3 (.int .i64 c) ⟨4, p.f1, p.f2, c, p.f4, p.f5⟩ rfl rfl, ((Below.refl _ _).setCell H.out.low _).setCell H.out.low _, ((Kp.refl _ _ _).put _ _).put _ _⟩
    · rw [if_neg t32]
      replace t32 := eq_false_of_ne_true t32
      by_cases t64 : inB c 64 126 = true
      · rw [if_pos t64, if_pos t64]
        go_enter Tryd.func71, Tryd.ntmps71
        go_wp2_with (first | (go_at_call 58; (with_reducible refine (in_calls _ _ _ _).mono ?_); rintro e w1 ⟨rfl, rfl⟩) | (go_at_call 90; (with_reducible refine (dispatch_calls _ _ base P B _ _ p d H.out hd).mono ?_); rintro e w2 ⟨rfl, L2⟩; have L := Aside0.mk L2; clear L2) | (go_at_call 79; (with_reducible refine (to_calls _ _ base P B _ _ p _ (by first | exact H1.out | exact H.out)).mono ?_); rintro e w2 ⟨rfl, L2⟩; have L := Aside0.mk L2; clear L2))
        all_goals
          first | go_end0 | ((try simp only [Exit.inBlock, Exit.then]); refine bodyPost_ret (results_none rfl _ _ _) rfl ?_)
          first | exact ⟨rfl, Left.after B1.out K1.out L.out⟩ | exact ⟨rfl, L.out⟩ | exact ⟨rfl, _, _, H.out, Below.refl _ _, Kp.refl _ _ _⟩
      · rw [if_neg t64, if_neg t64]
        replace t64 := eq_false_of_ne_true t64
        by_cases t127 : c = 127
        · rw [if_pos t127]
          have ta : (c != (127 : Int)) = false := by simp [t127]
          have tb : (c == (127 : Int)) = true := by simp [t127]
          clear t127
          go_enter Tryd.func71, Tryd.ntmps71
          go_wp2_with (first | (go_at_call 58; (with_reducible refine (in_calls _ _ _ _).mono ?_); rintro e w1 ⟨rfl, rfl⟩) | (go_at_call 90; (with_reducible refine (dispatch_calls _ _ base P B _ _ p d H.out hd).mono ?_); rintro e w2 ⟨rfl, L2⟩; have L := Aside0.mk L2; clear L2) | (go_at_call 79; (with_reducible refine (to_calls _ _ base P B _ _ p _ (by first | exact H1.out | exact H.out)).mono ?_); rintro e w2 ⟨rfl, L2⟩; have L := Aside0.mk L2; clear L2))
          all_goals
            first | go_end0 | ((try simp only [Exit.inBlock, Exit.then]); refine bodyPost_ret (results_none rfl _ _ _) rfl ?_)
            first | exact ⟨rfl, Left.after B1.out K1.out L.out⟩ | exact ⟨rfl, L.out⟩ | exact ⟨rfl, _, _, H.out, Below.refl _ _, Kp.refl _ _ _⟩
        · rw [if_neg t127]
          have ta : (c != (127 : Int)) = true := by simp [t127]
          have tb : (c == (127 : Int)) = false := by simp [t127]
          clear t127
          go_enter Tryd.func71, Tryd.ntmps71
          go_wp2_with (first | (go_at_call 58; (with_reducible refine (in_calls _ _ _ _).mono ?_); rintro e w1 ⟨rfl, rfl⟩) | (go_at_call 90; (with_reducible refine (dispatch_calls _ _ base P B _ _ p d H.out hd).mono ?_); rintro e w2 ⟨rfl, L2⟩; have L := Aside0.mk L2; clear L2) | (go_at_call 79; (with_reducible refine (to_calls _ _ base P B _ _ p _ (by first | exact H1.out | exact H.out)).mono ?_); rintro e w2 ⟨rfl, L2⟩; have L := Aside0.mk L2; clear L2))
          all_goals
            first | go_end0 | ((try simp only [Exit.inBlock, Exit.then]); refine bodyPost_ret (results_none rfl _ _ _) rfl ?_)
            first | exact ⟨rfl, Left.after B1.out K1.out L.out⟩ | exact ⟨rfl, L.out⟩ | exact ⟨rfl, _, _, H.out, Below.refl _ _, Kp.refl _ _ _⟩
/-- What a row of numbers may be. -/
def parOk (l : List Int) : Prop := l.length ≤ 16 ∧ ∀ x ∈ l, 0 ≤ x ∧ x ≤ 9999
theorem parF_ok {l : List Int} (h : parOk l) : parOk (parF l) := by
  unfold parF
  split
  · exact ⟨by simp, fun x hx => by simp at hx; omega⟩
  · exact h
theorem csi_calls (c : Int) (w : World) (base : Nat) (P : Nat → Prop) (B : Nat) (vP vD : Value) (p : S52) (d : List S62) (h : RS w base P B vP vD p d) (hd : d.length ≤ 1000000000) (hp : parOk p.f2) :
    Calls Tryd.prog 71 #[.pointer (some ⟨B, 0, none⟩), .int .i64 c] w fun e w' => e = .returned (.tuple #[]) ∧ Left w base P B vD (csiP p c) (csiD p d c) w' := by
  obtain ⟨q1, q2⟩ := parF_ok hp
  have q3 := parF_pos p.f2
  obtain ⟨k, hk⟩ : ∃ k, (parF p.f2).length = k + 1 := ⟨(parF p.f2).length - 1, by omega⟩
  obtain ⟨x, hx⟩ : ∃ x, (parF p.f2)[k]? = some x := ⟨_, List.getElem?_eq_getElem (by omega)⟩
  have hxm := q2 x (List.mem_of_getElem? hx)
  by_cases h1 : inB c 48 57 = true
  · have r := (inB_iff _ _ _).1 h1
    unfold csiP csiD
    rw [if_pos h1, if_neg (by rw [(inB_not c 64 126).2 (by omega)]; simp)]
    exact csi_digit c (parF p.f2) k x w base P B vP vD p d h hd rfl hk (by omega) hx hxm.1 hxm.2 h1
  · replace h1 := eq_false_of_ne_true h1
    by_cases h2 : c = 59
    · unfold csiP csiD
      rw [if_neg (by rw [h1]; simp), if_pos h2, if_neg (by rw [(inB_not c 64 126).2 (by omega)]; simp)]
      exact csi_semi c (parF p.f2) k w base P B vP vD p d h hd rfl hk (by omega) h2
    · exact csi_rest c w base P B vP vD p d h hd h1 h2
end Go.Proofs.YthipdgnbpdngpaaDoor
