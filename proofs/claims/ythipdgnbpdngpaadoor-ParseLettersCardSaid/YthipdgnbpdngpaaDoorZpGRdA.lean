-- A copy of the text YthipdgnbpdngpaaDoorGRdA with what this claim does not reach left out (prune.py, a program of this project).
import Derived.Test.YthipdgnbpdngpaaDoorZpGRd9
import Derived.Deep.LoopGhost
namespace Go.Proofs.YthipdgnbpdngpaaDoor
open Go.RowKit Go.Proofs.YthipdgnbpdngpaaDoorW.PrintWords Go.Proofs.YthipdgnbpdngpaaDoorW.PrintLast Go.Proofs.YthipdgnbpdngpaaDoorW.PrintMore S
set_option linter.unusedVariables false
set_option linter.unusedSimpArgs false
/-- take does what tk says, where ok says so. -/
def TakeC (tk : S52 → List S62 → Int → S52 × List S62) (ok : S52 → List S62 → Prop) : Prop :=
  ∀ (c : Int) (w : World) (base : Nat) (P : Nat → Prop) (B : Nat) (vP vD : Value) (p : S52) (d : List S62), 0 ≤ c → c ≤ 255 → RS w base P B vP vD p d → TabsAt w → 2 ≤ base → ok p d →
    Calls Tryd.prog 57 #[.pointer (some ⟨B, 0, none⟩), .int .i64 c] w fun e w' => e = .returned (.tuple #[]) ∧ Left w base P B vD (tk p d c).1 (tk p d c).2 w'
set_option maxRecDepth 100000 in
set_option maxHeartbeats 4000000 in
theorem pending_short (w : World) (base : Nat) (P : Nat → Prop) (B : Nat) (vP vD : Value) (p : S52) (d : List S62) (h : RS w base P B vP vD p d) (hd : d.length ≤ 1000000000) (r1 r2 r3 : Int) (hfo : firstL p.f5.data.toList = (r1, r2, r3)) (hT0 : TabsAt w) (h20 : 2 ≤ base) (h3 : r3 = 2) :
    Calls Tryd.prog 77 #[.pointer (some ⟨B, 0, none⟩)] w fun e w' => e = .returned (.tuple #[]) ∧ Left w base P B vD p d w' := by
  have fo2 := first_go p.f5 10 (by omega)
  rw [hfo] at fo2
  have FO := Aside0.mk fo2
  have z5 : w.cell? ⟨B, 5, none⟩ = some (.string p.f5) := h.cell 5
  have zf5 : w.frozen? ⟨B, 5, none⟩ = false := h.frozen 5
  have H := Aside0.mk h
  have hT := Aside0.mk hT0
  have hu52 := Tryd.underlying52
  have hu62 := Tryd.underlying62
  have hu67 := Tryd.underlying67
  have ta : (r3 == (2 : Int)) = true := by simp [h3]
  clear h hT0 h20 hfo fo2 h3
  go_enter Tryd.func77, Tryd.ntmps77
  go_wp2_with (first | (go_at_call 12; (with_reducible refine (Go.Proofs.YthipdgnbpdngpaaDoor.P.utf_First.calls 10 p.f5 r1 r2 r3 _ FO.out hT.out).mono ?_); rintro e w1 ⟨rfl, hb1⟩; have y5 : w1.cell? ⟨B, 5, none⟩ = some (.string p.f5) := blk_cell (blk_below H.out.blk hb1) 5; have yf5 : w1.frozen? ⟨B, 5, none⟩ = false := blk_frozen (blk_below H.out.blk hb1) 5; have H1 := Aside0.mk (H.out.below hb1); have B1 := Aside0.mk (hb1.mono H.out.size); have K1 := Aside0.mk ((Kp.refl B vD w).below hb1); clear hb1 z5 zf5))
  first | go_end0 | ((try simp only [Exit.inBlock, Exit.then]); refine bodyPost_ret (results_none rfl _ _ _) rfl ?_)
  exact ⟨rfl, _, _, H1.out, B1.out, K1.out⟩
set_option maxRecDepth 100000 in
set_option maxHeartbeats 4000000 in
theorem pending_ok (w : World) (base : Nat) (P : Nat → Prop) (B : Nat) (vP vD : Value) (p : S52) (d : List S62) (h : RS w base P B vP vD p d) (hd : d.length ≤ 1000000000) (r1 r2 r3 : Int) (hfo : firstL p.f5.data.toList = (r1, r2, r3)) (hT0 : TabsAt w) (h20 : 2 ≤ base) (h3 : r3 = 0) :
    Calls Tryd.prog 77 #[.pointer (some ⟨B, 0, none⟩)] w fun e w' => e = .returned (.tuple #[]) ∧ Left w base P B vD (pendAs p ⟨#[]⟩) (if 160 ≤ r1 then d ++ [pr r1] else d) w' := by
  have fo2 := first_go p.f5 10 (by omega)
  rw [hfo] at fo2
  have FO := Aside0.mk fo2
  have z5 : w.cell? ⟨B, 5, none⟩ = some (.string p.f5) := h.cell 5
  have zf5 : w.frozen? ⟨B, 5, none⟩ = false := h.frozen 5
  have H := Aside0.mk h
  have hT := Aside0.mk hT0
  have hu52 := Tryd.underlying52
  have hu62 := Tryd.underlying62
  have hu67 := Tryd.underlying67
  have ta : (r3 == (2 : Int)) = false := by simp [h3]
  have tb : (r3 == (0 : Int)) = true := by simp [h3]
  clear h hT0 h20 hfo fo2 h3
  by_cases t160 : 160 ≤ r1
  · rw [if_pos t160]
    have tc : decide (r1 ≥ 160) = true := decide_eq_true t160
    unfold pr
    clear t160
    go_enter Tryd.func77, Tryd.ntmps77
    go_wp2_with (first | (go_at_call 12; (with_reducible refine (Go.Proofs.YthipdgnbpdngpaaDoor.P.utf_First.calls 10 p.f5 r1 r2 r3 _ FO.out hT.out).mono ?_); rintro e w1 ⟨rfl, hb1⟩; have y5 : w1.cell? ⟨B, 5, none⟩ = some (.string p.f5) := blk_cell (blk_below H.out.blk hb1) 5; have yf5 : w1.frozen? ⟨B, 5, none⟩ = false := blk_frozen (blk_below H.out.blk hb1) 5; have H1 := Aside0.mk (H.out.below hb1); have B1 := Aside0.mk (hb1.mono H.out.size); have K1 := Aside0.mk ((Kp.refl B vD w).below hb1); clear hb1 z5 zf5) | (go_at_call 78; (with_reducible refine (do_plain _ _ _ _ _ _ _ base P B _ _ (pendAs p ⟨#[]⟩) d (H1.out.put 5 (.string ⟨#[]⟩) (pendAs p ⟨#[]⟩) rfl rfl) hd).mono ?_); rintro e w2 ⟨rfl, vP2, vD2, h2, hb2, hk2⟩; have H2 := Aside0.mk h2; have B2 := Aside0.mk ((B1.out.setCell H.out.low _).trans hb2); have K2 := Aside0.mk ((K1.out.put _ _).trans hk2); clear h2 hb2 hk2))
    first | go_end0 | ((try simp only [Exit.inBlock, Exit.then]); refine bodyPost_ret (results_none rfl _ _ _) rfl ?_)
    exact ⟨rfl, _, _, H2.out, B2.out, K2.out⟩
  · rw [if_neg t160]
    have tc : decide (r1 ≥ 160) = false := decide_eq_false t160
    clear t160
    go_enter Tryd.func77, Tryd.ntmps77
    go_wp2_with (first | (go_at_call 12; (with_reducible refine (Go.Proofs.YthipdgnbpdngpaaDoor.P.utf_First.calls 10 p.f5 r1 r2 r3 _ FO.out hT.out).mono ?_); rintro e w1 ⟨rfl, hb1⟩; have y5 : w1.cell? ⟨B, 5, none⟩ = some (.string p.f5) := blk_cell (blk_below H.out.blk hb1) 5; have yf5 : w1.frozen? ⟨B, 5, none⟩ = false := blk_frozen (blk_below H.out.blk hb1) 5; have H1 := Aside0.mk (H.out.below hb1); have B1 := Aside0.mk (hb1.mono H.out.size); have K1 := Aside0.mk ((Kp.refl B vD w).below hb1); clear hb1 z5 zf5))
    first | go_end0 | ((try simp only [Exit.inBlock, Exit.then]); refine bodyPost_ret (results_none rfl _ _ _) rfl ?_)
    exact ⟨rfl, _, _, H1.out.put 5 (.string ⟨#[]⟩) (pendAs p ⟨#[]⟩) rfl rfl, B1.out.setCell H.out.low _, K1.out.put _ _⟩
theorem bytes_below (w : World) (s : ByteArray) : Below w.heap.size w (Lib.bytesWorld w 5 s) :=
  ⟨rfl, rfl, rfl, by rw [Lib.bytesWorld_size]; exact Nat.le_succ _, fun k hk => Lib.bytesWorld_at_old w 5 s k hk⟩
/-- The first bytes, taken. -/
def runT (tk : S52 → List S62 → Int → S52 × List S62) (st : S52 × List S62) (l : List UInt8) : S52 × List S62 := l.foldl (fun s b => tk s.1 s.2 (b.toNat : Int)) st
theorem runT_snoc (tk : S52 → List S62 → Int → S52 × List S62) (st : S52 × List S62) (l : List UInt8) (j : Nat) (h : j < l.length) : runT tk st (l.take (j + 1)) = tk (runT tk st (l.take j)).1 (runT tk st (l.take j)).2 ((l.getD j 0).toNat : Int) := by
  unfold runT
  rw [List.take_succ_eq_append_getElem h, List.foldl_append, List.getD_eq_getElem?_getD, List.getElem?_eq_getElem h]
  rfl
set_option maxRecDepth 100000 in
set_option maxHeartbeats 4000000 in
theorem pending_bad {tk : S52 → List S62 → Int → S52 × List S62} {ok : S52 → List S62 → Prop} (hK0 : TakeC tk ok) (w : World) (base : Nat) (P : Nat → Prop) (B : Nat) (vP vD : Value) (p : S52) (d : List S62) (h : RS w base P B vP vD p d) (hd : d.length ≤ 1000000000) (r1 r2 r3 : Int) (hfo : firstL p.f5.data.toList = (r1, r2, r3)) (hT0 : TabsAt w) (h20 : 2 ≤ base) (h3 : r3 = 4) (hn0 : 0 ≤ r2) (hn1 : r2 ≤ p.f5.size) (h4 : p.f5.size ≤ 1000)
    (hok0 : ∀ j, j < (p.f5.data.toList.drop r2.toNat).length → ok (runT tk (pendAs p ⟨#[]⟩, d ++ [pr 65533]) ((p.f5.data.toList.drop r2.toNat).take j)).1 (runT tk (pendAs p ⟨#[]⟩, d ++ [pr 65533]) ((p.f5.data.toList.drop r2.toNat).take j)).2) :
    Calls Tryd.prog 77 #[.pointer (some ⟨B, 0, none⟩)] w fun e w' => e = .returned (.tuple #[]) ∧ Left w base P B vD (runT tk (pendAs p ⟨#[]⟩, d ++ [pr 65533]) (p.f5.data.toList.drop r2.toNat)).1 (runT tk (pendAs p ⟨#[]⟩, d ++ [pr 65533]) (p.f5.data.toList.drop r2.toNat)).2 w' := by
  have HL0 : (p.f5.extract r2.toNat p.f5.size).data.toList = p.f5.data.toList.drop r2.toNat := by
    rw [toList_extract, List.take_of_length_le (by rw [List.length_drop, len_size]; exact Nat.le_refl _)]
  rw [← HL0] at hok0 ⊢
  have hsz0 : (p.f5.extract r2.toNat p.f5.size).size ≤ 1000 := by rw [ByteArray.size_extract]; omega
  obtain ⟨s, hse⟩ : ∃ s, p.f5.extract r2.toNat p.f5.size = s := ⟨_, rfl⟩
  rw [hse] at hok0 hsz0 ⊢
  have fo2 := first_go p.f5 10 (by omega)
  rw [hfo] at fo2
  have FO := Aside0.mk fo2
  have z5 : w.cell? ⟨B, 5, none⟩ = some (.string p.f5) := h.cell 5
  have zf5 : w.frozen? ⟨B, 5, none⟩ = false := h.frozen 5
  have H := Aside0.mk h
  have hT := Aside0.mk hT0
  have hu52 := Tryd.underlying52
  have hu62 := Tryd.underlying62
  have hu67 := Tryd.underlying67
  have ta : (r3 == (2 : Int)) = false := by simp [h3]
  have tb : (r3 == (0 : Int)) = false := by simp [h3]
  have h2 := Aside0.mk h20
  have hK := Aside0.mk hK0
  have hcv := fun W => Lib.run_convert_string_bytes (P := Tryd.prog) W 9 67 5 s Tryd.underlying9 Tryd.underlying67 Tryd.underlying5
  have HOK := Aside0.mk hok0
  clear h hT0 h20 hfo fo2 h3 HL0 hK0 hok0
  go_enter Tryd.func77, Tryd.ntmps77
  go_wp2_with (first | (go_at_call 12; (with_reducible refine (Go.Proofs.YthipdgnbpdngpaaDoor.P.utf_First.calls 10 p.f5 r1 r2 r3 _ FO.out hT.out).mono ?_); rintro e w1 ⟨rfl, hb1⟩; have y5 : w1.cell? ⟨B, 5, none⟩ = some (.string p.f5) := blk_cell (blk_below H.out.blk hb1) 5; have yf5 : w1.frozen? ⟨B, 5, none⟩ = false := blk_frozen (blk_below H.out.blk hb1) 5; have H1 := Aside0.mk (H.out.below hb1); have B1 := Aside0.mk (hb1.mono H.out.size); have K1 := Aside0.mk ((Kp.refl B vD w).below hb1); clear hb1 z5 zf5) | (go_at_call 78; (with_reducible refine (do_plain _ _ _ _ _ _ _ base P B _ _ (pendAs p ⟨#[]⟩) d (H1.out.put 5 (.string ⟨#[]⟩) (pendAs p ⟨#[]⟩) rfl rfl) hd).mono ?_); rintro e w2 ⟨rfl, vP2, vD2, h2, hb2, hk2⟩; have H2 := Aside0.mk h2; have B2 := Aside0.mk ((B1.out.setCell H.out.low _).trans hb2); have K2 := Aside0.mk ((K1.out.put _ _).trans hk2); clear h2 hb2 hk2))
  clear hcv hse
  have hb2 := blk_lt H2.out.blk
  have hd2 := Aside0.mk (fun k hk => Kd.N_lt H2.out.don k hk)
  have HB3 := bytes_below w2 s
  have hs3 := Lib.bytesWorld_size w2 5 s
  have hc3 := Aside0.mk (fun j hj => Lib.bytesWorld_cell w2 5 s j hj)
  have H3 := Aside0.mk (H2.out.below HB3)
  have B3 := Aside0.mk (B2.out.trans (HB3.mono H2.out.size))
  have K3 := Aside0.mk (K2.out.below HB3)
  have HS3 := Aside0.mk hs3
  clear HB3 hs3
  have hsN : ((s.size : Nat) : Int) ≤ 1000 := by omega
  generalize Lib.bytesWorld w2 5 s = w3 at H3 B3 K3 HS3 hc3 ⊢
  generalize hgb : w2.heap.size = gb at hb2 hd2 HS3 hc3 ⊢
  clear hgb
  have EN := Aside0.mk (show ∀ wr, Left w3 base P B vD2 (runT tk (pendAs p ⟨#[]⟩, d ++ [pr 65533]) s.data.toList).1 (runT tk (pendAs p ⟨#[]⟩, d ++ [pr 65533]) s.data.toList).2 wr → Left w base P B vD (runT tk (pendAs p ⟨#[]⟩, d ++ [pr 65533]) s.data.toList).1 (runT tk (pendAs p ⟨#[]⟩, d ++ [pr 65533]) s.data.toList).2 wr from fun wr hl => Left.after B3.out K3.out hl)
  have ST := Aside0.mk (show Left w3 base P B vD2 (runT tk (pendAs p ⟨#[]⟩, d ++ [pr 65533]) (s.data.toList.take 0)).1 (runT tk (pendAs p ⟨#[]⟩, d ++ [pr 65533]) (s.data.toList.take 0)).2 w3 from ⟨_, _, H3.out, Below.refl _ _, Kp.refl _ _ _⟩)
  have LS : s.data.toList.length = s.size := len_size s
  have LS2 := Aside0.mk LS
  clear LS
  go_loopw [46] (fun i wr => ∃ j : Nat, j ≤ s.size ∧ i = .int .i64 j ∧ Aside0 (Left w3 base P B vD2 (runT tk (pendAs p ⟨#[]⟩, d ++ [pr 65533]) (s.data.toList.take j)).1 (runT tk (pendAs p ⟨#[]⟩, d ++ [pr 65533]) (s.data.toList.take j)).2 wr)) (fun i _ => s.size - (RowKit.intOf i).toNat)
  case atStart => exact ⟨0, Nat.zero_le _, rfl, ST⟩
  case round =>
    obtain ⟨j, hj, rfl, HLj⟩ := hrel
    by_cases hlt : j < s.size
    · obtain ⟨vPj, vDj, hj1, hj2, hj3⟩ := HLj.out
      have cb := (World.cell?_of_block (a := ⟨gb, j, none⟩) (hj3.blk gb (by have := HS3.out; omega) (by omega) (fun e => by have := hd2.out gb e.symm; omega))).trans (hc3.out j hlt)
      have hlz : (j : Int) < (s.size : Int) := by omega
      have hjz : (0 : Int) ≤ (j : Int) := by omega
      have HST := Aside0.mk (runT_snoc tk (pendAs p ⟨#[]⟩, d ++ [pr 65533]) s.data.toList j (by rw [LS2.out]; exact hlt))
      have hu8 := (s.data.toList.getD j 0).toNat_lt
      have TK := Aside0.mk (hK.out ((s.data.toList.getD j 0).toNat : Int) _ base P B vPj vDj _ _ (by omega) (by omega) hj1 (tabs_below hT.out h2.out (B3.out.trans hj2)) h2.out (HOK.out j (by rw [LS2.out]; exact hlt)))
      have B4 := Aside0.mk hj2
      have K4 := Aside0.mk hj3
      clear hj1 hj2 hj3 HLj
      generalize (s.data.toList.getD j 0).toNat = bt at cb HST TK hu8 ⊢
      go_wp2_with (go_at_call 57; refine TK.out.mono ?_; rintro e w5 ⟨rfl, L5⟩; have L := Aside0.mk L5; clear L5)
      go_roundw
      case rel => exact ⟨j + 1, by omega, by go_num, Aside0.mk (by rw [HST.out]; exact Left.after B4.out K4.out L.out)⟩
      case measure => simp [RowKit.intOf]; omega
    · have hjs : j = s.size := by omega
      have HF := Aside0.mk (show Left w3 base P B vD2 (runT tk (pendAs p ⟨#[]⟩, d ++ [pr 65533]) s.data.toList).1 (runT tk (pendAs p ⟨#[]⟩, d ++ [pr 65533]) s.data.toList).2 _ from by
        have h9 := HLj.out
        rw [List.take_of_length_le (by rw [LS2.out]; omega)] at h9
        exact h9)
      have hge : ¬ ((j : Int) < (s.size : Int)) := by omega
      clear hjs
      go_wp2
      go_end0
      exact ⟨rfl, EN.out _ HF.out⟩
end Go.Proofs.YthipdgnbpdngpaaDoor
