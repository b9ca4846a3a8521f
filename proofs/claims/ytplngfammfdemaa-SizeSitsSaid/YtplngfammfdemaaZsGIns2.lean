-- A copy of the text YtplngfammfdemaaGIns2 with what this claim does not reach left out (prune.py, a program of this project).
import Derived.Test.YtplngfammfdemaaZsGInsert
import Derived.Maps.AppendAt
namespace Go.Proofs.Ytplngfammfdemaa
open Go.RowKit Go.Proofs.YtplngfammfdemaaW.PrintWords Go.Proofs.YtplngfammfdemaaW.PrintLast Go.Proofs.YtplngfammfdemaaW.PrintMore P
set_option linter.unusedVariables false
set_option linter.unusedSimpArgs false
set_option maxHeartbeats 8000000 in
set_option maxRecDepth 100000 in
theorem insert_end (base c n cv vb : Nat) (A : Option Addr) (V : List Value) (l : List S48) (x : S48) (hn : l.length = n) (w : World) (hlen : n < 1000000000000) (hb : base ≤ w.heap.size) (hown : w.ownsRow base 48 4 (.slice A n c) n (flatS l)) (hV : w.heap[vb]? = some (.cells V.toArray 48 (0, 0))) (hVt : V.take 4 = seatL x) (hcz : (n : Int) ≤ c) (hc0 : A = none → n = 0 ∧ c = 0) :
    Calls Try.prog 69 #[.slice A n c, .int .i64 (n : Int), .slice (some ⟨vb, 0, none⟩) 1 cv] w fun e w' => ∃ v', e = .returned v' ∧ w'.ownsRow base 48 4 v' (n + 1) (flatS l ++ seatL x) ∧ w.grownBy w' (Value.slice A n c).ownBlock ∧ (v'.ownBlock = (Value.slice A n c).ownBlock ∨ v'.ownBlock = some w.heap.size) := by
  have hu45 := Try.underlying45
  obtain ⟨i0, hi0, hz0, hz1, hz2⟩ := info_parts info48
  have HOWN := Aside0.mk hown
  have HV := Aside0.mk hV
  have hsrc : ∀ j v, (seatL x)[j]? = some v → w.cell? ((⟨vb, 0, none⟩ : Addr).add j) = some v := by
    intro j u hj
    rw [addr_add, blk_cell hV, List.getElem?_toArray, Nat.zero_add]
    rw [← hVt, List.getElem?_take] at hj
    split at hj
    · exact hj
    · cases hj
  have HS := Aside0.mk hsrc
  clear hown hV hsrc hVt hn
  have m2 : (0 : Int) ≤ (n : Int) := by omega
  have b1 : n + 1 ≤ maxLen := by unfold maxLen; omega
  have B1 := Aside0.mk b1
  have B2 : Aside0 ((n + 1) * 32 ≤ 140737488355328) := ⟨by omega⟩
  clear b1
  go_enter Try.func69, Try.ntmps69
  go_wp2_with (at_builtin; refine wpList_append_own_at _ rfl _ _ 45 rfl base 48 i0 (.agg #[.int .i64 0, .int .i64 0, .int .i64 0, .int .i64 0]) 4 32 Try.underlying45 hi0 hz0 hz1 hz2 rfl (by decide) _ _ _ rfl HOWN.out ⟨vb, 0, none⟩ 1 cv (seatL x) rfl rfl HS.out (one_seat x) B1.out B2.out hb ?_; intro v' w1 hown' hgrow hq hat; have HO1 := Aside0.mk hown'; have HG1 := Aside0.mk hgrow; have HA1 := Aside0.mk hat; clear hown' hgrow hq hat)
  all_goals (go_ret; first | exact ⟨_, rfl, HO1.out, HG1.out, HA1.out⟩ | exact ⟨_, rfl, HO1.out, by cases A <;> exact HG1.out, by cases A <;> exact HA1.out⟩)
theorem grow_take (R : List Value) (l : List S48) (x : S48) (n i c : Nat) (hn : l.length = n) (hi : i < n) (hR : R.length = c * 4) (hc : n + 1 ≤ c) (ht : R.take (i * 4) = flatS (l.take i)) :
    (splice (splice R (i * 4) (seatL x)) ((i + 1) * 4) (flatS (l.drop i))).take ((n + 1) * 4) = flatS (l.take i ++ x :: l.drop i) := by
  have hd : (flatS (l.drop i)).length = (n - i) * 4 := by rw [flatS_length, List.length_drop, hn]
  have hs : (seatL x).length = 4 := rfl
  have h1 : (splice R (i * 4) (seatL x)).length = c * 4 := by rw [length_splice _ _ _ (by rw [hs, hR]; omega), hR]
  have e3 : (splice R (i * 4) (seatL x)).take ((i + 1) * 4) = flatS (l.take i) ++ seatL x := by
    unfold splice
    rw [← List.append_assoc, ht, List.take_left' (by rw [List.length_append, flatS_length, List.length_take, hs, hn]; omega)]
  rw [show splice (splice R (i * 4) (seatL x)) ((i + 1) * 4) (flatS (l.drop i)) = (splice R (i * 4) (seatL x)).take ((i + 1) * 4) ++ (flatS (l.drop i) ++ (splice R (i * 4) (seatL x)).drop ((i + 1) * 4 + (flatS (l.drop i)).length)) from rfl, e3]
  rw [← List.append_assoc, List.take_left' (by rw [List.length_append, List.length_append, flatS_length, List.length_take, hs, hd, hn]; omega)]
  rw [flatS_append, List.append_assoc]
  rfl
set_option maxHeartbeats 8000000 in
set_option maxRecDepth 100000 in
theorem insert_grow (base g n cv vb : Nat) (L V : List Value) (l : List S48) (x : S48) (i : Nat) (hn : l.length = n) (hi : i < n) (w : World) (hlen : n < 1000000000000) (hb : base ≤ w.heap.size) (hG : w.heap[g]? = some (.cells L.toArray 48 (0, 0))) (hV : w.heap[vb]? = some (.cells V.toArray 48 (0, 0))) (hVt : V.take 4 = seatL x) (hL : L.length = n * 4) (ht : L.take (n * 4) = flatS l) :
    Calls Try.prog 69 #[.slice (some ⟨g, 0, none⟩) n n, .int .i64 (i : Int), .slice (some ⟨vb, 0, none⟩) 1 cv] w fun e w' => ∃ v', e = .returned v' ∧ Kd.R k48 48 w' base (fun k => w.heap.size ≤ k) v' (l.take i ++ x :: l.drop i) ∧ Below w.heap.size w w' := by
  have hu45 := Try.underlying45
  obtain ⟨i0, hi0, hz0, hz1, hz2⟩ := info_parts info48
  have hdl : (flatS (l.drop i)).length = (n - i) * 4 := by rw [flatS_length, List.length_drop, hn]
  have hold : (Builtin.firstCells i0.size i (.slice (some ⟨g, 0, none⟩) i n)).run Try.prog w.drew = .ok (flatS (l.take i)).toArray w.drew := by
    rw [hz1]
    refine run_firstCells_some w.drew 4 i ⟨g, 0, none⟩ i n (flatS (l.take i)) (by rw [flatS_length, List.length_take]; omega) (fun j v hj => ?_)
    rw [addr_add, blk_cell (blk_drew hG), List.getElem?_toArray, Nat.zero_add]
    rw [← flatS_take, ← ht, List.getElem?_take] at hj
    split at hj
    · rw [List.getElem?_take] at hj
      split at hj
      · exact hj
      · cases hj
    · cases hj
  have hap := Lib.run_append_grow_zeros (P := Try.prog) w 45 3 45 48 i0 _ .i64 .i64 Try.underlying45 Try.underlying3 hi0 hz0 (some ⟨g, 0, none⟩) i n (flatS (l.take i)) hold (n + 1 - i) (by omega) (by omega) (by omega) (by omega) (by rw [hz2]; omega) (by rw [hz2]; exact growslice_fits (by omega) (by omega))
  have hin : i + (n + 1 - i) = n + 1 := by omega
  rw [hin] at hap
  have hGc : n + 1 ≤ grownCap w (n + 1) n 48 := grownCap_ge _ _ _ _
  have hGm : grownCap w (n + 1) n 48 ≤ maxLen := grownCap_le_maxLen _ _ _ _ (by unfold maxLen; omega)
  generalize grownCap w (n + 1) n 48 = G at hap hGc hGm
  obtain ⟨R0, hR0, hRl, hRt⟩ : ∃ R0 : List Value, ((flatS (List.take i l)).toArray ++ Builtin.zeroCells (Value.agg #[Value.int IntKind.i64 0, Value.int IntKind.i64 0, Value.int IntKind.i64 0, Value.int IntKind.i64 0]).cells (n + 1 - i) ++ Builtin.zeroCells (Value.agg #[Value.int IntKind.i64 0, Value.int IntKind.i64 0, Value.int IntKind.i64 0, Value.int IntKind.i64 0]).cells (G - (n + 1))) = R0.toArray ∧ R0.length = G * 4 ∧ R0.take (i * 4) = flatS (l.take i) := by
    refine ⟨flatS (l.take i) ++ ((Builtin.zeroCells (Value.agg #[Value.int IntKind.i64 0, Value.int IntKind.i64 0, Value.int IntKind.i64 0, Value.int IntKind.i64 0]).cells (n + 1 - i)).toList ++ (Builtin.zeroCells (Value.agg #[Value.int IntKind.i64 0, Value.int IntKind.i64 0, Value.int IntKind.i64 0, Value.int IntKind.i64 0]).cells (G - (n + 1))).toList), ?_, ?_, ?_⟩
    · apply Array.ext'
      simp
    · rw [List.length_append, List.length_append, flatS_length, List.length_take, Array.length_toList (xs := Builtin.zeroCells _ (n + 1 - i)), Array.length_toList (xs := Builtin.zeroCells _ (G - (n + 1))), size_zeroCells, size_zeroCells]
      show _ + (_ * 4 + _ * 4) = _
      omega
    · rw [List.take_left' (by rw [flatS_length, List.length_take]; omega)]
  rw [hR0] at hap
  clear hR0 hold
  have hG0 : (w.drew.alloc (.cells R0.toArray 48)).heap[w.heap.size]? = some (.cells R0.toArray 48 (0, 0)) := blk_new w.drew _
  have hB0 : Below w.heap.size w (w.drew.alloc (.cells R0.toArray 48)) := (below_drew (Below.refl _ w)).alloc (Nat.le_refl _) _
  have hsz0 : w.heap.size < (w.drew.alloc (.cells R0.toArray 48)).heap.size := blk_lt hG0
  generalize w.drew.alloc (.cells R0.toArray 48) = w1 at hap hG0 hB0 hsz0
  have hgw := blk_lt hG
  have hvw := blk_lt hV
  have hG1 := blk_below hG hB0
  have hV1 := blk_below hV hB0
  have hsrc1 : ∀ j v, (seatL x)[j]? = some v → w1.cell? ((⟨vb, 0, none⟩ : Addr).add j) = some v := by
    intro j u hj
    rw [addr_add, blk_cell hV1, List.getElem?_toArray, Nat.zero_add]
    rw [← hVt, List.getElem?_take] at hj
    split at hj
    · exact hj
    · cases hj
  obtain ⟨w2, hr2, hG2, hB2, hO2⟩ := run_copy_splice (P := Try.prog) w1 45 45 3 48 4 w.heap.size (i * 4) (n + 1 - i) (G - i) ⟨vb, 0, none⟩ 1 cv R0 48 (seatL x) Try.underlying45 size48 hG0 (by rw [show Nat.min 1 (n + 1 - i) = 1 by simp only [Nat.min_def]; split <;> omega]; rfl) hsrc1 (by rw [hRl]; show i * 4 + 4 ≤ _; omega) (one_seat x) w.heap.size w hB0 (Nat.le_refl _)
  rw [show Nat.min 1 (n + 1 - i) = 1 by simp only [Nat.min_def]; split <;> omega] at hr2
  have hs2 : (splice R0 (i * 4) (seatL x)).length = G * 4 := by rw [length_splice _ _ _ (by rw [hRl]; show i * 4 + 4 ≤ _; omega), hRl]
  have hg2 : w2.heap[g]? = some (.cells L.toArray 48 (0, 0)) := blk_below hG hB2
  have hsrc2 : ∀ j v, (flatS (l.drop i))[j]? = some v → w2.drew.cell? ((⟨g, i * 4, none⟩ : Addr).add j) = some v := by
    intro j u hj
    rw [addr_add, blk_cell (blk_drew hg2), List.getElem?_toArray]
    rw [← flatS_drop, List.getElem?_drop, ← ht, List.getElem?_take] at hj
    split at hj
    · exact hj
    · cases hj
  obtain ⟨w3, hr3, hG3, hB3, hO3⟩ := run_copy_splice (P := Try.prog) w2.drew 45 45 3 48 4 w.heap.size ((i + 1) * 4) (n - i) (G - (i + 1)) ⟨g, i * 4, none⟩ (n - i) (n - i) _ 48 (flatS (l.drop i)) Try.underlying45 size48 (blk_drew hG2) (by rw [hdl, show Nat.min (n - i) (n - i) = n - i from Nat.min_self _]) hsrc2 (by rw [hdl, hs2]; omega) (one_flat _) w.heap.size w (below_drew hB2) (Nat.le_refl _)
  rw [show Nat.min (n - i) (n - i) = n - i from Nat.min_self _] at hr3
  have hR := R_mkS (w := w3) (base := base) (l := l.take i ++ x :: l.drop i) (c := G) hb hG3 (by simp; omega) hGm (by rw [List.size_toArray, length_splice _ _ _ (by rw [hs2, hdl]; omega), hs2]) (by rw [List.toList_toArray, show (l.take i ++ x :: l.drop i).length = n + 1 by simp; omega]; exact grow_take R0 l x n i G hn hi hRl hGc hRt)
  rw [show (l.take i ++ x :: l.drop i).length = n + 1 by simp; omega] at hR
  have HR := Aside0.mk (Kd.R_mono hR (fun k hk => show w.heap.size ≤ k from Nat.le_of_eq hk.symm))
  have HB := Aside0.mk hB3
  have n1 : ((i : Int) == (n : Int)) = false := beq_eq_false_iff_ne.2 (by omega)
  have n2 : decide ((n : Int) < (n : Int) + 1) = true := decide_eq_true (by omega)
  have m1 : (i : Int) ≤ (n : Int) := by omega
  have m2 : (0 : Int) ≤ (i : Int) := by omega
  have m3 : (n : Int) + 1 ≤ (G : Int) := by omega
  have m4 : (0 : Int) ≤ (n : Int) + 1 := by omega
  have m5 : (0 : Int) ≤ (i : Int) + 1 := by omega
  have m6 : (i : Int) + 1 ≤ (n : Int) + 1 := by omega
  have m7 : (G = i + 1) = False := eq_false (by omega)
  have m8 : (G = i) = False := eq_false (by omega)
  have m9 : (i : Int) ≤ (n : Int) + 1 := by omega
  have m10 : (n = i) = False := eq_false (by omega)
  have hcast : (n : Int) + 1 - (i : Int) = ((n + 1 - i : Nat) : Int) := by omega
  rw [← hcast] at hap
  clear hcast hR hG0 hG2 hG3 hB0 hB2 hB3 hO2 hO3 hsrc1 hsrc2 hs2 hG hG1 hV hV1 hVt hL ht hdl hn hRl hRt hGc hGm hg2 hsz0 hgw hvw hz0 hz1 hz2 hi0 hin
  go_enter Try.func69, Try.ntmps69
  go_wp2_with (at_builtin; refine Lib.wpList_append_run _ rfl _ _ _ _ rfl _ _ rfl rfl _ _ hap ?_)
  have k1 : IntKind.i64.wrap ((i : Int) + 1) = (i : Int) + 1 := by rw [IntKind.wrap_i64]; omega
  have k2 : ((i : Int) + 1).toNat = i + 1 := by omega
  go_region_law (refine step_copy_run rfl (.tmp 50) (.tmp 53) 45 45 rfl _ _ (by simp [Act.eval, Act.put]) (by simp [Act.eval, Act.put]) hr3 ?_)
  clear k1 k2
  go_wp2
  go_ret
  exact ⟨_, rfl, HR.out, HB.out⟩
def api_Seat_69.f (l : List S48) (i : Int) (l2 : List S48) : Option (List S48) :=
  match l2 with
  | [x] => if 0 ≤ i ∧ i ≤ l.length ∧ l.length < 1000000000000 then some (l.take i.toNat ++ x :: l.drop i.toNat) else none
  | _ => none
theorem api_Seat_69.calls (P0_ : Nat → Prop) (v0 : Value) (l0 : List S48) (a1 : Int) (A2 : Option Addr) (c2 : Nat) (l2 : List S48) (r : List S48) (w0 w : World) (hb0 : Below w0.heap.size w0 w) (ho : Kd.R k48 48 w w0.heap.size P0_ v0 l0) (h2 : ∃ (base2 : Nat) (ok2 : Nat → Prop), Kd.R k48 48 w base2 ok2 (.slice A2 l2.length c2) l2 ∧ (∀ k, ok2 k → ¬ P0_ k)) (hc2 : l2.length ≤ c2) (h : api_Seat_69.f l0 a1 l2 = some r) :
    Calls Try.prog 69 #[v0, .int .i64 a1, .slice A2 l2.length c2] w fun e w' => ∃ v_ : Value, e = .returned v_ ∧ Kd.R k48 48 w' w0.heap.size (fun k_ => P0_ k_ ∨ w.heap.size ≤ k_) v_ r ∧ Below w0.heap.size w0 w' ∧ Kept w w' P0_ := by
  unfold api_Seat_69.f at h
  split at h
  · rename_i x
    split at h
    · rename_i hh
      obtain ⟨h0, h1, hl⟩ := hh
      obtain rfl := Option.some.inj h
      obtain ⟨i, rfl⟩ : ∃ i : Nat, a1 = (i : Int) := ⟨a1.toNat, by omega⟩
      rw [Int.toNat_natCast]
      obtain ⟨base2, ok2, hR2, hne⟩ := h2
      have hok2 := hR2.1
      obtain ⟨vb, V, rfl, hvb, hV, hVc, hVm, hVs, hVt⟩ := R_openS hR2 (by simp)
      have hV' : w.heap[vb]? = some (.cells V.toList.toArray 48 (0, 0)) := by rw [Array.toArray_toList]; exact hV
      have hVt' : V.toList.take 4 = seatL x := by
        have := hVt
        simp only [List.length_singleton, Nat.one_mul] at this
        rw [this]; simp [flatS]
      have hPv : ¬ P0_ vb := hne vb (hok2 vb rfl)
      obtain ⟨A0, c0, rfl⟩ := Kd.R_slice ho
      have hP := ho.1
      by_cases hi : i = l0.length
      · subst hi
        obtain ⟨h1', inner, hown, hreps⟩ := ho
        obtain rfl := reps_flat hreps
        have hA : A0 = none → l0.length = 0 ∧ c0 = 0 := by
          rintro rfl
          rcases hown.2 with ⟨e, h⟩ | ⟨g, cap, cur, e, _⟩
          · simp only [Value.slice.injEq] at e; exact ⟨e.2.1, e.2.2⟩
          · simp at e
        have hle : l0.length ≤ c0 := own_le hown
        refine (insert_end w0.heap.size c0 l0.length c2 vb A0 V.toList l0 x rfl w (by omega) hb0.size hown hV' hVt' (by omega) hA).mono ?_
        rintro e w' ⟨v', rfl, hown', hgr, hat⟩
        have hlen : (l0.take l0.length ++ x :: l0.drop l0.length).length = l0.length + 1 := by simp
        have hfl : flatS (l0.take l0.length ++ x :: l0.drop l0.length) = flatS l0 ++ seatL x := by
          rw [List.take_length, List.drop_length, flatS_append]; simp [flatS]
        refine ⟨v', rfl, ?_, ?_, ?_⟩
        · refine ⟨fun k hk => ?_, flatS l0 ++ seatL x, by rw [hlen]; exact hown', by rw [← hfl]; exact flat_reps _ _ _ _⟩
          rcases hat with hat | hat
          · exact .inl (hP k (by rw [← hat]; exact hk))
          · rw [hat] at hk; exact .inr (Nat.le_of_eq (Option.some.inj hk))
        · exact hb0.grown hgr hb0.size (fun k hk => own_base hown k hk)
        · exact ⟨hgr.size, fun j hj hn => hgr.block j hj (fun e => hn (hP j e.symm))⟩
      · have hil : i < l0.length := by omega
        obtain ⟨g, cur, rfl, hg, hG, hc, hmax, hs, ht⟩ := R_openS ho (by omega)
        have hPg : P0_ g := hP g rfl
        have hvg : vb ≠ g := fun e => hPv (e ▸ hPg)
        have hG' : w.heap[g]? = some (.cells cur.toList.toArray 48 (0, 0)) := by rw [Array.toArray_toList]; exact hG
        by_cases hroom : l0.length + 1 ≤ c0
        · refine (insert_room w0.heap.size g c0 l0.length c2 vb cur.toList V.toList l0 x i rfl hil w (by omega) hg hb0.size hG' hV' hVt' hvg hroom hmax (by rw [Array.length_toList]; exact hs) ht).mono ?_
          rintro e w' ⟨rfl, hR, hB, hO⟩
          refine ⟨_, rfl, Kd.R_mono hR (fun k hk => .inl (hk ▸ hPg)), hb0.trans hB, hO.1, fun j hj hn => hO.2 j hj (fun e => hn (e ▸ hPg))⟩
        · obtain rfl : c0 = l0.length := by omega
          refine (insert_grow w0.heap.size g l0.length c2 vb cur.toList V.toList l0 x i rfl hil w (by omega) hb0.size hG' hV' hVt' (by rw [Array.length_toList]; exact hs) ht).mono ?_
          rintro e w' ⟨v', rfl, hR, hB⟩
          exact ⟨v', rfl, Kd.R_mono hR (fun k hk => .inr hk), hb0.trans (hB.mono hb0.size), Kept.of_below hB _⟩
    · cases h
  · cases h
end Go.Proofs.Ytplngfammfdemaa
