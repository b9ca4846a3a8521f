-- Copies of the texts YtbnpcnpdeinacaaDoorGDec, YtbnpcnpdeinacaaDoorPx2, YtbnpcnpdeinacaaDoorGShort with what this claim does not reach left out (prune.py, a program of this project).
import Derived.Test.YtbnpcnpdeinacaaDoorZkGTake
import Derived.Test.YtbnpcnpdeinacaaDoorZkGBytes
import Derived.Maps.AppendAt
import Derived.Deep.AppendLies
import Derived.Deep.RegionHeld3
import Derived.Test.YtbnpcnpdeinacaaDoorZkPx0
import Derived.Test.YtbnpcnpdeinacaaDoorZkPx1
import Derived.Test.YtbnpcnpdeinacaaDoorZkMK1
import Derived.Test.YtbnpcnpdeinacaaDoorZkWMore
import Derived.Test.YtbnpcnpdeinacaaDoorZkWLast
section
namespace Go.Proofs.YtbnpcnpdeinacaaDoor
open Go.RowKit Go.Maps Go.Proofs.YtbnpcnpdeinacaaDoorW.PrintWords Go.Proofs.YtbnpcnpdeinacaaDoorW.PrintLast Go.Proofs.YtbnpcnpdeinacaaDoorW.PrintMore P
set_option linter.unusedVariables false
set_option linter.unusedSimpArgs false
theorem takeF_go (s : ByteArray) (final : Bool) (h1 : 1 ≤ s.size) (h2 : s.size ≤ 1000000) : takeF 60 s final = some (pairF (takeL s.data.toList final)) := by
  have hn : s.data.toList ≠ [] := by
    intro e
    rw [size_len, e] at h1
    simp at h1
  unfold takeF takeL
  cases hitL s.data.toList with
  | some p => rfl
  | none =>
    simp only
    unfold restF
    by_cases c0 : beginsL s.data.toList = true ∧ final = false
    · rw [if_pos c0, if_pos c0]; rfl
    rw [if_neg c0, if_neg c0, if_neg hn, toList_take]
    by_cases c1 : s.data.toList.take 1 = [27]
    · rw [if_pos c1, if_pos c1]
      exact escaped_go s final 60 (by omega) h1 h2
    rw [if_neg c1, if_neg c1, letter_go s 60 (by omega), Option.bind_some, first_go s 60 (by omega), Option.bind_some, ba_data]
    by_cases c2 : letterL s.data.toList = []
    · rw [if_pos c2, if_neg (show ¬ letterL s.data.toList ≠ [] from fun h => h c2)]
      by_cases c3 : (firstL s.data.toList).2.2 = 2
      · rw [if_pos c3, if_pos c3]
        cases final <;> rfl
      · rw [if_neg c3, if_neg c3]
        congr 1
        refine Prod.ext rfl ?_
        rcases firstL_len s.data.toList with ⟨e, _⟩ | ⟨_, e1, _, _⟩
        · exact absurd e c3
        · show (firstL s.data.toList).2.1 = ((firstL s.data.toList).2.1.toNat : Int)
          omega
    · rw [if_neg c2, if_pos (show letterL s.data.toList ≠ [] from c2)]; rfl
/-- The table of names in block g: not yet laid, or laid. -/
def Tab (W : World) (g : Nat) : Prop := W.heap[g]? = some (.cells #[.int .u32 0, .int .i32 0, .int .u32 0, .map none] 52 (0, 0)) ∨ ∃ bm, TabM W g bm
theorem Tab.below {W W' : World} {g : Nat} (h : Tab W g) (hb : Below W.heap.size W W') : Tab W' g := by
  rcases h with h | ⟨bm, h⟩
  · exact .inl (blk_below h hb)
  · exact .inr ⟨bm, h.below hb⟩
theorem names_any (w : World) (g : Nat) (h : Tab w g) : Calls Tryd.prog 13 #[.pointer (some ⟨g, 0, none⟩)] w fun e w' => ∃ bm, e = .returned (.map (some bm)) ∧ TabM w' g bm ∧ w.grownBy w' (some g) := by
  rcases h with h | ⟨bm, h⟩
  · exact names_first w g h
  · refine (names_again w g bm h).mono ?_
    rintro e w' ⟨rfl, hb⟩
    exact ⟨bm, rfl, h.below hb, ⟨hb.os, hb.tape, hb.output, hb.size, fun k hk _ => hb.block k hk⟩⟩
theorem below_grown {w a b : World} {g : Nat} (h : Below w.heap.size w a) (hg : a.grownBy b (some g)) (hgw : w.heap.size ≤ g) : Below w.heap.size w b := h.grown hg h.size (fun k hk => by cases hk; exact hgw)
theorem infoS : (Tryd.prog.info? 9).map (fun i => (i.zero, i.size, i.bytes)) = some (some (.string ByteArray.empty), 1, 16) := by kernel_rfl
theorem infoS' : ∃ i0, Tryd.prog.info? 9 = some i0 ∧ i0.zero = some (.string ByteArray.empty) ∧ i0.size = 1 ∧ i0.bytes = 16 := by
  obtain ⟨i0, hi, hzz⟩ := Option.map_eq_some_iff.1 infoS
  simp only [Prod.mk.injEq] at hzz
  exact ⟨i0, hi, hzz.1, hzz.2.1, hzz.2.2⟩
theorem TabM.grown {W W' : World} {g bm : Nat} {row : Option Nat} (h : TabM W g bm) (hg : W.grownBy W' row) (h1 : some g ≠ row) (h2 : some bm ≠ row) : TabM W' g bm :=
  ⟨(hg.block g (blk_lt h.hg) h1).trans h.hg, h.own.kept hg h2⟩
theorem map_ne {W : World} {base n bm m : Nat} {v : Value} {xs : List Value} {D : DataW Unit} (h : W.ownsRow base 9 1 v n xs) (ho : Own W bm m D) : some bm ≠ v.ownBlock := by
  intro e
  obtain ⟨cells, hc⟩ := own_typed h bm e.symm
  obtain ⟨es, clock, hb, _⟩ := ho
  rw [hb] at hc
  cases hc
theorem decL_nil (d : Nat) (f : Bool) : decL d [] f = ([], []) := by cases d <;> rfl
theorem decL_step (d : Nat) (s : List UInt8) (f : Bool) (hs : s ≠ []) : decL (d + 1) s f = if (takeL s f).1 = [] then ([], s) else ((takeL s f).1 :: (decL d (s.drop (takeL s f).2) f).1, (decL d (s.drop (takeL s f).2) f).2) := if_neg hs
theorem row_ne {W : World} {base g n : Nat} {v : Value} {xs : List Value} (h : W.ownsRow base 9 1 v n xs) (hg : g < base) : v.ownBlock = none ∨ v.ownBlock ≠ some g := by
  right
  intro e
  have := (h.lt g e).1
  omega
theorem own_below {W W' : World} {base n : Nat} {v : Value} {xs : List Value} (h : W.ownsRow base 9 1 v n xs) (hb : Below W.heap.size W W') : W'.ownsRow base 9 1 v n xs := h.kept (row := none) ⟨hb.os, hb.tape, hb.output, hb.size, fun k hk _ => hb.block k hk⟩ (by cases e : v.ownBlock <;> simp)
set_option maxRecDepth 100000 in
set_option maxHeartbeats 8000000 in
theorem decode_any (a0 : ByteArray) (a1 : Bool) (w : World) (hsz : a0.size ≤ 1000000) (hT : TabsAt w) :
    Calls Tryd.prog 6 #[.string a0, .bool a1] w fun e w' => ∃ v : Value, e = .returned (.tuple #[v, .string (ba (decL a0.size a0.data.toList a1).2)]) ∧ Kd.R Kd.string 9 w' w.heap.size (fun _ => True) v ((decL a0.size a0.data.toList a1).1.map ba) ∧ Below w.heap.size w w' := by
  have HT := Aside0.mk hT
  have HS := Aside0.mk hsz
  clear hT
  go_enter Tryd.func6, Tryd.ntmps6
  go_wp2
  have t0 : Tab (w.alloc (.cells #[.int .u32 0, .int .i32 0, .int .u32 0, .map none] 52)) w.heap.size := .inl (blk_new w _)
  have b0 : Below w.heap.size w (w.alloc (.cells #[.int .u32 0, .int .i32 0, .int .u32 0, .map none] 52)) := below_alloc (Below.refl _ _) _
  have s0 : w.heap.size + 1 ≤ (w.alloc (.cells #[.int .u32 0, .int .i32 0, .int .u32 0, .map none] 52)).heap.size := by simp
  have r0 := World.ownsRow_nil (w.alloc (.cells #[.int .u32 0, .int .i32 0, .int .u32 0, .map none] 52)) (w.heap.size + 1) 9 1
  generalize w.alloc (.cells #[.int .u32 0, .int .i32 0, .int .u32 0, .map none] 52) = W0 at t0 b0 s0 r0 ⊢
  go_loopg [0, 7] a0.size (fun kq v0 v7 W => ∃ (s : List UInt8) (acc : List ByteArray), v0 = .string (ba s) ∧ Aside0 (acc ++ (decL kq s a1).1.map ba = (decL a0.size a0.data.toList a1).1.map ba) ∧ Aside0 ((decL kq s a1).2 = (decL a0.size a0.data.toList a1).2) ∧ Aside0 (s.length ≤ kq) ∧ Aside0 (acc.length + s.length ≤ 1000000) ∧
    Aside0 (W.ownsRow (w.heap.size + 1) 9 1 v7 acc.length (acc.map Value.string)) ∧ Aside0 (Tab W w.heap.size) ∧ Aside0 (Below w.heap.size w W) ∧ Aside0 (w.heap.size + 1 ≤ W.heap.size))
  case atStart => exact ⟨a0.data.toList, [], by rw [← ba_eq a0 _ rfl], ⟨rfl⟩, ⟨rfl⟩, ⟨by rw [← size_len]; exact Nat.le_refl _⟩, ⟨by rw [← size_len]; simpa using hsz⟩, ⟨r0⟩, ⟨t0⟩, ⟨b0⟩, ⟨s0⟩⟩
  case round =>
    obtain ⟨s, acc, rfl, H1, H2, H3, H4, HO, HTab, HB, HW⟩ := hrel
    clear t0 b0 s0 r0
    by_cases hs : s = []
    · subst hs
      have c1 : (ba []).toList.isEmpty = true := by rw [Lib.toList_data]; rfl
      have h1 := H1.out
      have h2 := H2.out
      rw [decL_nil] at h1 h2
      simp only [List.map_nil, List.append_nil] at h1 h2
      have H1 := Aside0.mk h1
      have H2 := Aside0.mk h2
      clear h1 h2
      go_wp2
      go_ret2
      exact ⟨u7, by rw [← H2.out]; rfl, by rw [← H1.out]; exact Kd.R_of_own (own_weaken HO.out (Nat.le_succ _)) (fun _ _ => trivial), HB.out⟩
    · have hsl : 1 ≤ s.length := by
        cases s with
        | nil => exact absurd rfl hs
        | cons a l => simp
      cases gk with
      | zero => have := H3.out; omega
      | succ k1 =>
        have c1 : (ba s).toList.isEmpty = false := by rw [Lib.toList_data, ba_data]; cases s with | nil => exact absurd rfl hs | cons a l => rfl
        have hTk := Aside0.mk (takeF_go (ba s) a1 hsl (by have := H4.out; rw [ba_size]; omega))
        rw [ba_data] at hTk
        have h1 := H1.out
        have h2 := H2.out
        rw [decL_step k1 s a1 hs] at h1 h2
        clear H1 H2
        by_cases ht : (takeL s a1).1 = []
        · rw [if_pos ht] at h1 h2
          have c2 : (ba (takeL s a1).1).toList.isEmpty = true := by rw [Lib.toList_data, ba_data, ht]; rfl
          clear ht
          simp only [List.map_nil, List.append_nil] at h1 h2
          have H1 := Aside0.mk h1
          have H2 := Aside0.mk h2
          clear h1 h2
          go_wp2_with (first | (go_at_call 13; refine (names_any _ w.heap.size HTab.out).mono ?_; rintro e w1 ⟨bm, rfl, hM, hg⟩; have HM := Aside0.mk hM; have HO1 := Aside0.mk (HO.out.kept hg (row_ne HO.out (Nat.lt_succ_self _))); have HB1 := Aside0.mk (below_grown HB.out hg (Nat.le_refl _)); clear hM hg) | (go_at_call 12; refine (take_any 60 (ba s) a1 _ _ _ bm HM.out.own hTk.out (tabs_here HT.out HB1.out)).mono ?_; rintro e w2 ⟨rfl, hb2⟩; have HO2 := Aside0.mk (own_below HO1.out hb2); have HB2 := Aside0.mk (below_step HB1.out hb2); clear hb2))
          go_ret2
          exact ⟨u7, by rw [← H2.out]; rfl, by rw [← H1.out]; exact Kd.R_of_own (own_weaken HO2.out (Nat.le_succ _)) (fun _ _ => trivial), HB2.out⟩
        · rw [if_neg ht] at h1 h2
          have c2 : (ba (takeL s a1).1).toList.isEmpty = false := by rw [Lib.toList_data, ba_data]; cases hx : (takeL s a1).1 with | nil => exact absurd hx ht | cons a l => rfl
          obtain ⟨n1, n2⟩ := takeL_ok s a1 hs ht
          have n3 : ((takeL s a1).2 : Int) ≤ ((ba s).size : Int) := by rw [ba_size]; omega
          go_wp2_with (first | (go_at_call 13; refine (names_any _ w.heap.size HTab.out).mono ?_; rintro e w1 ⟨bm, rfl, hM, hg⟩; have HM := Aside0.mk hM; have HO1 := Aside0.mk (HO.out.kept hg (row_ne HO.out (Nat.lt_succ_self _))); have HB1 := Aside0.mk (below_grown HB.out hg (Nat.le_refl _)); have HS1 := Aside0.mk (Nat.le_trans HW.out hg.size); clear hM hg) | (go_at_call 12; refine (take_any 60 (ba s) a1 _ _ _ bm HM.out.own hTk.out (tabs_here HT.out HB1.out)).mono ?_; rintro e w2 ⟨rfl, hb2⟩; have HO2 := Aside0.mk (own_below HO1.out hb2); have HB2 := Aside0.mk (below_step HB1.out hb2); have HM2 := Aside0.mk (HM.out.below hb2); have HS2 := Aside0.mk (Nat.le_trans HS1.out hb2.size); clear hb2))
          have hl4 := H4.out
          have HI := Aside0.mk infoS'
          go_region_held3 (fun w' => True) (trivial) ((refine step_append_lies _ (by rfl) _ _ _ (by rfl) (w.heap.size + 1) 9 _ _ 1 16 Tryd.underlying23 HI.out.choose_spec.1 HI.out.choose_spec.2.1 HI.out.choose_spec.2.2.1 HI.out.choose_spec.2.2.2 rfl (by omega) u7 acc.length (acc.map Value.string) (by rfl) ((HO2.out.alloc _).drew) ⟨w2.heap.size, 0, none⟩ 1 1 [.string (ba (takeL s a1).1)] (by rfl) rfl (World.news_of_block (heap_alloc_new w2 _)) (by intro u hu; simp at hu; subst hu; rfl) (by omega) (by unfold maxLen; omega) (by omega) (by have := HS2.out; simp; omega) (w2.heap.size + 1) (by simp) ?_; intro g cap w4 hown4 hgrow hat hlt))
          go_wp2
          go_roundg k1
          case measure => omega
          case rel =>
            have hsz4 : (w2.alloc (.cells #[.string (ba (takeL s a1).1)] 9)).drew.heap.size = w2.heap.size + 1 := by simp
            have hbX : Below w.heap.size w (w2.alloc (.cells #[.string (ba (takeL s a1).1)] 9)).drew := below_drew1 (below_alloc HB2.out _)
            have hoX := (HO2.out.alloc (.cells #[.string (ba (takeL s a1).1)] 9)).drew
            have hMX : TabM (w2.alloc (.cells #[.string (ba (takeL s a1).1)] 9)).drew w.heap.size bm := ⟨blk_alloc HM2.out.hg _, HM2.out.own.alloc _⟩
            refine ⟨s.drop (takeL s a1).2, acc ++ [ba (takeL s a1).1], ?_, ⟨?_⟩, ⟨h2⟩, ⟨?_⟩, ⟨?_⟩, ⟨?_⟩, ⟨.inr ⟨bm, hMX.grown hgrow ?_ (map_ne hoX hMX.own)⟩⟩, ⟨hbX.grown hgrow (by have := HS2.out; omega) (fun k hk => by have := (hoX.lt k hk).1; omega)⟩, ⟨by have := hgrow.size; have := HS2.out; omega⟩⟩
            · congr 1
              exact ba_eq _ _ (toList_drop (ba s) _)
            · rw [← h1]; simp
            · rw [List.length_drop]; have := H3.out; omega
            · rw [List.length_drop, List.length_append, List.length_singleton]; omega
            · have e1 : (acc ++ [ba (takeL s a1).1]).length = acc.length + 1 := by simp
              rw [e1, List.map_append]
              exact hown4
            · rcases row_ne hoX (Nat.lt_succ_self _) with e | e
              · rw [e]; simp
              · exact fun h => e h.symm
theorem keys_Decode.calls (a0 : ByteArray) (a1 : Bool) (r1 : List ByteArray) (r2 : ByteArray) (w : World) (h : keys_Decode.f a0 a1 = some (r1, r2)) (hT : TabsAt w := by first | with_reducible assumption | exact tabs_here (by with_reducible assumption) (by repeat (with_reducible first | assumption | apply below_alloc | apply pw_below_drewN | apply below_drew1 | (refine Below.setCell ?_ ?_ _) | exact Aside0.out (by assumption)))) :
    Calls Tryd.prog 6 #[.string a0, .bool a1] w fun e w' => ∃ v : Value, e = .returned (.tuple #[v, .string r2]) ∧ Kd.R Kd.string 9 w' w.heap.size (fun _ => True) v r1 ∧ Below w.heap.size w w' := by
  unfold keys_Decode.f at h
  by_cases hs : a0.size ≤ 1000000
  · rw [if_pos hs] at h
    have h' := Option.some.inj h
    simp only [Prod.mk.injEq] at h'
    obtain ⟨rfl, rfl⟩ := h'
    exact decode_any a0 a1 w hs hT
  · rw [if_neg hs] at h; cases h
theorem find_NLD (k : List UInt8) : (NL.map fun p => ((Lit.string p.1, DataW.lit (Lit.string p.2)) : Lit × DataW Unit)).find? (fun p => p.1.sameKey (.string k)) = (NL.find? fun p => p.1 == k).map fun p => (Lit.string p.1, DataW.lit (Lit.string p.2)) := by
  rw [List.find?_map]
  congr 1
theorem key_at (k : List UInt8) (zd : DataW Unit) : NAMED.atKey (.string k) zd = match keyL k with | some v => .lit (.string v) | none => zd := by
  rw [NAMED_eq]
  simp only [DataW.atKey]
  rw [find_NLD]
  unfold keyL
  cases NL.find? (fun p => p.1 == k) <;> rfl
theorem key_has (k : List UInt8) : Maps.has NAMED (.string k) = (keyL k).isSome := by
  rw [NAMED_eq]
  simp only [Maps.has]
  rw [← List.isSome_find?, find_NLD]
  unfold keyL
  cases NL.find? (fun p => p.1 == k) <;> rfl
theorem look_go (W : World) (bm : Nat) (name : ByteArray) (h : Own W bm 48 NAMED) (hs : name.size ≤ maxLen) :
    (Instr.lookup 50 (.map (some bm)) (.string name) true).run Tryd.prog W = .ok (.tuple #[.string (ba ((keyL name.data.toList).getD [])), .bool (keyL name.data.toList).isSome]) W := by
  have hz : RS (.string ByteArray.empty) = some (.lit (.string []), []) := plainElem_string Tryd.underlying9 (by decide)
  obtain ⟨v, ps, hrun, hv⟩ := h.look_ok law9 Tryd.underlying50 (zero9 W) hz (keyS name hs)
  rw [hrun, key_has]
  obtain ⟨c, rfl, hc, _⟩ := plainElem_string_inv Tryd.underlying9 hv
  have hc1 := (Prod.mk.inj hc).1
  rw [key_at] at hc1
  cases hk : keyL name.data.toList with
  | some x =>
    rw [hk] at hc1
    have e : c.data.toList = x := by simpa using hc1.symm
    rw [ba_eq c x e]; rfl
  | none =>
    rw [hk] at hc1
    have e : c.data.toList = [] := by simpa using hc1.symm
    rw [ba_eq c [] e]; rfl
theorem isEmpty_of {l : List UInt8} (h : l ≠ []) : l.isEmpty = false := by
  cases l with
  | nil => exact absurd rfl h
  | cons a l => rfl
theorem eqb_of {x y : ByteArray} (h : x.data.toList = y.data.toList) : (x.toList == y.toList) = true := by rw [Lib.toList_data, Lib.toList_data, h]; exact beq_self_eq_true _
theorem eqb_no {x y : ByteArray} (h : x.data.toList ≠ y.data.toList) : (x.toList == y.toList) = false := by rw [Lib.toList_data, Lib.toList_data, beq_eq_false_iff_ne]; exact h
theorem eql_of {x : ByteArray} {l : List UInt8} (h : x.data.toList = l) : (x.toList == l) = true := by rw [Lib.toList_data, h]; exact beq_self_eq_true _
theorem eql_no {x : ByteArray} {l : List UInt8} (h : x.data.toList ≠ l) : (x.toList == l) = false := by rw [Lib.toList_data, beq_eq_false_iff_ne]; exact h
theorem bytesL_none (name : List UInt8) (h : keyL name = none) : bytesL name = if name = [69, 115, 99] then ([27], 0)
    else if name ≠ [] ∧ letterL name = name then (name, 0)
    else if Lib.hasPrefix name [77, 45] = true ∧ letterL (name.drop 2) ≠ [] ∧ letterL (name.drop 2) = name.drop 2 ∧ letterL (name.drop 2) ≠ [91] ∧ letterL (name.drop 2) ≠ [79] then (27 :: letterL (name.drop 2), 0)
    else ([], 1) := by
  unfold bytesL
  rw [h]
theorem emp_of {x : ByteArray} (h : x.data.toList = []) : x.toList.isEmpty = true := by rw [Lib.toList_data, h]; rfl
theorem emp_no {x : ByteArray} (h : x.data.toList ≠ []) : x.toList.isEmpty = false := by rw [Lib.toList_data]; exact isEmpty_of h
set_option maxRecDepth 100000 in
set_option maxHeartbeats 2000000 in
theorem bytes_any (a0 : ByteArray) (w : World) (hsz : a0.size ≤ 1000000) (hT : TabsAt w) (r : List UInt8 × Int) (hr : bytesL a0.data.toList = r) :
    Calls Tryd.prog 9 #[.string a0] w fun e w' => e = .returned (.tuple #[.string (ba r.1), .int .i64 r.2]) ∧ Below w.heap.size w w' := by
  have HT := Aside0.mk hT
  clear hT
  have HTab : Aside0 (Tab (w.alloc (.cells #[.int .u32 0, .int .i32 0, .int .u32 0, .map none] 52)) w.heap.size) := ⟨.inl (blk_new w _)⟩
  have HB : Aside0 (Below w.heap.size w (w.alloc (.cells #[.int .u32 0, .int .i32 0, .int .u32 0, .map none] 52))) := ⟨below_alloc (Below.refl _ _) _⟩
  obtain ⟨R0, hR0⟩ : ∃ R0, (⟨(Lib.trimPrefix a0.data.toList [77, 45]).toArray⟩ : ByteArray) = R0 := ⟨_, rfl⟩
  have HR0 := Aside0.mk hR0
  have hRd : R0.data.toList = Lib.trimPrefix a0.data.toList [77, 45] := by rw [← hR0]
  clear hR0
  obtain ⟨L, hL⟩ : ∃ L, letterL (Lib.trimPrefix a0.data.toList [77, 45]) = L := ⟨_, rfl⟩
  have HL1 : Aside0 (P.keys_letter.f 60 R0 = some (ba L)) := ⟨by rw [letter_go _ _ (by omega), hRd, hL]⟩
  have HRd := Aside0.mk hRd
  clear hRd
  have HL2 : Aside0 (P.keys_letter.f 60 a0 = some (ba (letterL a0.data.toList))) := ⟨letter_go _ _ (by omega)⟩
  have HLL := Aside0.mk hL
  cases hk : keyL a0.data.toList with
  | some v =>
    have HK := Aside0.mk hk
    have HR : Aside0 (r = (v, 0)) := ⟨by rw [← hr]; unfold bytesL; rw [hk]⟩
    clear hk hr
    rw [HR.out]
    go_enter Tryd.func9, Tryd.ntmps9
    go_wp2_with (first | (go_at_call 13; refine (names_any _ w.heap.size HTab.out).mono ?_; rintro e w1 ⟨bm, rfl, hM, hg⟩; have hlk := look_go w1 bm a0 hM.own (by unfold maxLen; omega); rw [HK.out] at hlk; have HB1 := Aside0.mk (below_grown HB.out hg (Nat.le_refl _)); clear hM hg) | (go_at_call 14; refine (Tryd.strings_CutPrefix a0 _ _).mono ?_; rintro e w' ⟨rfl, rfl⟩; rw [HPRE.out, HR0.out]) | (go_at_call 15; first | (with_reducible refine (P.keys_letter.calls 60 R0 (ba L) _ HL1.out (tabs_here HT.out HB1.out)).mono ?_; rintro e w2 ⟨rfl, hb2⟩; have HB2 := Aside0.mk (below_step HB1.out hb2); clear hb2) | (with_reducible refine (P.keys_letter.calls 60 a0 (ba (letterL a0.data.toList)) _ HL2.out (tabs_here HT.out HB2.out)).mono ?_; rintro e w3 ⟨rfl, hb3⟩; have HB3 := Aside0.mk (below_step HB2.out hb3); clear hb3)))
    go_ret2
    exact ⟨by first | rfl | (rw [HR.out]; rfl), by first | exact HB3.out | exact HB2.out | exact HB1.out⟩
  | none =>
    have HK := Aside0.mk hk
    have hR := hr.symm.trans (bytesL_none _ hk)
    clear hk hr
    by_cases c1 : a0.data.toList = [69, 115, 99]
    · rw [if_pos c1] at hR
      have HR := Aside0.mk hR
      clear hR
      rw [HR.out]
      obtain ⟨b0, HPRE⟩ : ∃ b, Aside0 (Lib.hasPrefix a0.data.toList [77, 45] = b) := ⟨_, ⟨rfl⟩⟩
      have d1 := eql_of c1
      clear c1
      go_enter Tryd.func9, Tryd.ntmps9
      go_wp2_with (first | (go_at_call 13; refine (names_any _ w.heap.size HTab.out).mono ?_; rintro e w1 ⟨bm, rfl, hM, hg⟩; have hlk := look_go w1 bm a0 hM.own (by unfold maxLen; omega); rw [HK.out] at hlk; have HB1 := Aside0.mk (below_grown HB.out hg (Nat.le_refl _)); clear hM hg) | (go_at_call 14; refine (Tryd.strings_CutPrefix a0 _ _).mono ?_; rintro e w' ⟨rfl, rfl⟩; rw [HPRE.out, HR0.out]) | (go_at_call 15; first | (with_reducible refine (P.keys_letter.calls 60 R0 (ba L) _ HL1.out (tabs_here HT.out HB1.out)).mono ?_; rintro e w2 ⟨rfl, hb2⟩; have HB2 := Aside0.mk (below_step HB1.out hb2); clear hb2) | (with_reducible refine (P.keys_letter.calls 60 a0 (ba (letterL a0.data.toList)) _ HL2.out (tabs_here HT.out HB2.out)).mono ?_; rintro e w3 ⟨rfl, hb3⟩; have HB3 := Aside0.mk (below_step HB2.out hb3); clear hb3)))
      go_ret2
      exact ⟨by first | rfl | (rw [HR.out]; rfl), by first | exact HB3.out | exact HB2.out | exact HB1.out⟩
    rw [if_neg c1] at hR
    have d1 := eql_no c1
    clear c1
    by_cases c2 : a0.data.toList ≠ [] ∧ letterL a0.data.toList = a0.data.toList
    · rw [if_pos c2] at hR
      have HR := Aside0.mk hR
      clear hR
      rw [HR.out]
      obtain ⟨b0, HPRE⟩ : ∃ b, Aside0 (Lib.hasPrefix a0.data.toList [77, 45] = b) := ⟨_, ⟨rfl⟩⟩
      have d2 := emp_no c2.1
      have d3 : ((ba (letterL a0.data.toList)).toList == a0.toList) = true := eqb_of (by rw [ba_data]; exact c2.2)
      clear c2
      go_enter Tryd.func9, Tryd.ntmps9
      go_wp2_with (first | (go_at_call 13; refine (names_any _ w.heap.size HTab.out).mono ?_; rintro e w1 ⟨bm, rfl, hM, hg⟩; have hlk := look_go w1 bm a0 hM.own (by unfold maxLen; omega); rw [HK.out] at hlk; have HB1 := Aside0.mk (below_grown HB.out hg (Nat.le_refl _)); clear hM hg) | (go_at_call 14; refine (Tryd.strings_CutPrefix a0 _ _).mono ?_; rintro e w' ⟨rfl, rfl⟩; rw [HPRE.out, HR0.out]) | (go_at_call 15; first | (with_reducible refine (P.keys_letter.calls 60 R0 (ba L) _ HL1.out (tabs_here HT.out HB1.out)).mono ?_; rintro e w2 ⟨rfl, hb2⟩; have HB2 := Aside0.mk (below_step HB1.out hb2); clear hb2) | (with_reducible refine (P.keys_letter.calls 60 a0 (ba (letterL a0.data.toList)) _ HL2.out (tabs_here HT.out HB2.out)).mono ?_; rintro e w3 ⟨rfl, hb3⟩; have HB3 := Aside0.mk (below_step HB2.out hb3); clear hb3)))
      go_ret2
      exact ⟨by rw [← ba_eq a0 _ rfl]; rfl, HB3.out⟩
    rw [if_neg c2] at hR
    cases hp : Lib.hasPrefix a0.data.toList [77, 45] with
    | false =>
      have HPRE := Aside0.mk hp
      rw [if_neg (by rw [hp]; exact fun h => by cases h.1)] at hR
      have HR := Aside0.mk hR
      clear hR hp
      rw [HR.out]
      by_cases c3 : a0.data.toList = []
      · have d2 := emp_of c3
        clear c3 c2
        go_enter Tryd.func9, Tryd.ntmps9
        go_wp2_with (first | (go_at_call 13; refine (names_any _ w.heap.size HTab.out).mono ?_; rintro e w1 ⟨bm, rfl, hM, hg⟩; have hlk := look_go w1 bm a0 hM.own (by unfold maxLen; omega); rw [HK.out] at hlk; have HB1 := Aside0.mk (below_grown HB.out hg (Nat.le_refl _)); clear hM hg) | (go_at_call 14; refine (Tryd.strings_CutPrefix a0 _ _).mono ?_; rintro e w' ⟨rfl, rfl⟩; rw [HPRE.out, HR0.out]) | (go_at_call 15; first | (with_reducible refine (P.keys_letter.calls 60 R0 (ba L) _ HL1.out (tabs_here HT.out HB1.out)).mono ?_; rintro e w2 ⟨rfl, hb2⟩; have HB2 := Aside0.mk (below_step HB1.out hb2); clear hb2) | (with_reducible refine (P.keys_letter.calls 60 a0 (ba (letterL a0.data.toList)) _ HL2.out (tabs_here HT.out HB2.out)).mono ?_; rintro e w3 ⟨rfl, hb3⟩; have HB3 := Aside0.mk (below_step HB2.out hb3); clear hb3)))
        go_ret2
        exact ⟨by first | rfl | (rw [HR.out]; rfl), by first | exact HB3.out | exact HB2.out | exact HB1.out⟩
      · have d2 := emp_no c3
        have d3 : ((ba (letterL a0.data.toList)).toList == a0.toList) = false := eqb_no (by rw [ba_data]; exact fun h => c2 ⟨c3, h⟩)
        clear c3 c2
        go_enter Tryd.func9, Tryd.ntmps9
        go_wp2_with (first | (go_at_call 13; refine (names_any _ w.heap.size HTab.out).mono ?_; rintro e w1 ⟨bm, rfl, hM, hg⟩; have hlk := look_go w1 bm a0 hM.own (by unfold maxLen; omega); rw [HK.out] at hlk; have HB1 := Aside0.mk (below_grown HB.out hg (Nat.le_refl _)); clear hM hg) | (go_at_call 14; refine (Tryd.strings_CutPrefix a0 _ _).mono ?_; rintro e w' ⟨rfl, rfl⟩; rw [HPRE.out, HR0.out]) | (go_at_call 15; first | (with_reducible refine (P.keys_letter.calls 60 R0 (ba L) _ HL1.out (tabs_here HT.out HB1.out)).mono ?_; rintro e w2 ⟨rfl, hb2⟩; have HB2 := Aside0.mk (below_step HB1.out hb2); clear hb2) | (with_reducible refine (P.keys_letter.calls 60 a0 (ba (letterL a0.data.toList)) _ HL2.out (tabs_here HT.out HB2.out)).mono ?_; rintro e w3 ⟨rfl, hb3⟩; have HB3 := Aside0.mk (below_step HB2.out hb3); clear hb3)))
        go_ret2
        exact ⟨by first | rfl | (rw [HR.out]; rfl), by first | exact HB3.out | exact HB2.out | exact HB1.out⟩
    | true =>
      have HPRE := Aside0.mk hp
      have hne : a0.data.toList ≠ [] := by
        intro e
        rw [e] at hp
        cases hp
      have d2 := emp_no hne
      have d3 : ((ba (letterL a0.data.toList)).toList == a0.toList) = false := eqb_no (by rw [ba_data]; exact fun h => c2 ⟨hne, h⟩)
      have hdr : Lib.trimPrefix a0.data.toList [77, 45] = a0.data.toList.drop 2 := by unfold Lib.trimPrefix; rw [if_pos hp]; rfl
      have hL' : letterL (a0.data.toList.drop 2) = L := by rw [← hdr]; exact hL
      rw [hL', ← hdr] at hR
      clear c2 hne hdr hL'
      by_cases c4 : L ≠ [] ∧ L = Lib.trimPrefix a0.data.toList [77, 45] ∧ L ≠ [91] ∧ L ≠ [79]
      · rw [if_pos ⟨hp, c4⟩] at hR
        have HR := Aside0.mk hR
        clear hR hp
        rw [HR.out]
        have f1 : (ba L).toList.isEmpty = false := emp_no c4.1
        have f2 : ((ba L).toList == R0.toList) = true := eqb_of (by rw [ba_data, HRd.out]; exact c4.2.1)
        have f3 : ((ba L).toList == ([91] : List UInt8)) = false := eql_no c4.2.2.1
        have f4 : ((ba L).toList == ([79] : List UInt8)) = false := eql_no c4.2.2.2
        have f5 : ((⟨#[27]⟩ : ByteArray) ++ ba L) = ba (27 :: L) := ba_eq _ _ (by rw [ByteArray.data_append, Array.toList_append]; rfl)
        have f6 : ((9223372036854775807 : Nat) < 1 + (ba L).size) = False := eq_false (by have := letterL_len (Lib.trimPrefix a0.data.toList [77, 45]); rw [hL] at this; rw [ba_size]; unfold Lib.trimPrefix at this; split at this <;> simp only [List.length_drop, ← size_len] at this <;> omega)
        clear c4 hL
        go_enter Tryd.func9, Tryd.ntmps9
        go_wp2_with (first | (go_at_call 13; refine (names_any _ w.heap.size HTab.out).mono ?_; rintro e w1 ⟨bm, rfl, hM, hg⟩; have hlk := look_go w1 bm a0 hM.own (by unfold maxLen; omega); rw [HK.out] at hlk; have HB1 := Aside0.mk (below_grown HB.out hg (Nat.le_refl _)); clear hM hg) | (go_at_call 14; refine (Tryd.strings_CutPrefix a0 _ _).mono ?_; rintro e w' ⟨rfl, rfl⟩; rw [HPRE.out, HR0.out]) | (go_at_call 15; first | (with_reducible refine (P.keys_letter.calls 60 R0 (ba L) _ HL1.out (tabs_here HT.out HB1.out)).mono ?_; rintro e w2 ⟨rfl, hb2⟩; have HB2 := Aside0.mk (below_step HB1.out hb2); clear hb2) | (with_reducible refine (P.keys_letter.calls 60 a0 (ba (letterL a0.data.toList)) _ HL2.out (tabs_here HT.out HB2.out)).mono ?_; rintro e w3 ⟨rfl, hb3⟩; have HB3 := Aside0.mk (below_step HB2.out hb3); clear hb3)))
        go_ret2
        exact ⟨by first | rfl | (rw [← f5]; rfl) | (rw [f5]; rfl) | rw [f5], HB3.out⟩
      · rw [if_neg (fun h => c4 h.2)] at hR
        have HR := Aside0.mk hR
        clear hR hp hL
        rw [HR.out]
        by_cases e1 : L = []
        · have f1 : (ba L).toList.isEmpty = true := emp_of e1
          clear c4 e1
          go_enter Tryd.func9, Tryd.ntmps9
          go_wp2_with (first | (go_at_call 13; refine (names_any _ w.heap.size HTab.out).mono ?_; rintro e w1 ⟨bm, rfl, hM, hg⟩; have hlk := look_go w1 bm a0 hM.own (by unfold maxLen; omega); rw [HK.out] at hlk; have HB1 := Aside0.mk (below_grown HB.out hg (Nat.le_refl _)); clear hM hg) | (go_at_call 14; refine (Tryd.strings_CutPrefix a0 _ _).mono ?_; rintro e w' ⟨rfl, rfl⟩; rw [HPRE.out, HR0.out]) | (go_at_call 15; first | (with_reducible refine (P.keys_letter.calls 60 R0 (ba L) _ HL1.out (tabs_here HT.out HB1.out)).mono ?_; rintro e w2 ⟨rfl, hb2⟩; have HB2 := Aside0.mk (below_step HB1.out hb2); clear hb2) | (with_reducible refine (P.keys_letter.calls 60 a0 (ba (letterL a0.data.toList)) _ HL2.out (tabs_here HT.out HB2.out)).mono ?_; rintro e w3 ⟨rfl, hb3⟩; have HB3 := Aside0.mk (below_step HB2.out hb3); clear hb3)))
          go_ret2
          exact ⟨by first | rfl | (rw [HR.out]; rfl), by first | exact HB3.out | exact HB2.out | exact HB1.out⟩
        have f1 : (ba L).toList.isEmpty = false := emp_no e1
        by_cases e2 : L = Lib.trimPrefix a0.data.toList [77, 45]
        · have f2 : ((ba L).toList == R0.toList) = true := eqb_of (by rw [ba_data, HRd.out]; exact e2)
          by_cases e3 : L = [91]
          · have f3 : ((ba L).toList == ([91] : List UInt8)) = true := eql_of e3
            clear c4 e1 e2 e3
            go_enter Tryd.func9, Tryd.ntmps9
            go_wp2_with (first | (go_at_call 13; refine (names_any _ w.heap.size HTab.out).mono ?_; rintro e w1 ⟨bm, rfl, hM, hg⟩; have hlk := look_go w1 bm a0 hM.own (by unfold maxLen; omega); rw [HK.out] at hlk; have HB1 := Aside0.mk (below_grown HB.out hg (Nat.le_refl _)); clear hM hg) | (go_at_call 14; refine (Tryd.strings_CutPrefix a0 _ _).mono ?_; rintro e w' ⟨rfl, rfl⟩; rw [HPRE.out, HR0.out]) | (go_at_call 15; first | (with_reducible refine (P.keys_letter.calls 60 R0 (ba L) _ HL1.out (tabs_here HT.out HB1.out)).mono ?_; rintro e w2 ⟨rfl, hb2⟩; have HB2 := Aside0.mk (below_step HB1.out hb2); clear hb2) | (with_reducible refine (P.keys_letter.calls 60 a0 (ba (letterL a0.data.toList)) _ HL2.out (tabs_here HT.out HB2.out)).mono ?_; rintro e w3 ⟨rfl, hb3⟩; have HB3 := Aside0.mk (below_step HB2.out hb3); clear hb3)))
            go_ret2
            exact ⟨by first | rfl | (rw [HR.out]; rfl), by first | exact HB3.out | exact HB2.out | exact HB1.out⟩
          · have f3 : ((ba L).toList == ([91] : List UInt8)) = false := eql_no e3
            have e4 : L = [79] := Classical.byContradiction fun e4 => c4 ⟨e1, e2, e3, e4⟩
            have f4 : ((ba L).toList == ([79] : List UInt8)) = true := eql_of e4
            clear c4 e1 e2 e3 e4
            go_enter Tryd.func9, Tryd.ntmps9
            go_wp2_with (first | (go_at_call 13; refine (names_any _ w.heap.size HTab.out).mono ?_; rintro e w1 ⟨bm, rfl, hM, hg⟩; have hlk := look_go w1 bm a0 hM.own (by unfold maxLen; omega); rw [HK.out] at hlk; have HB1 := Aside0.mk (below_grown HB.out hg (Nat.le_refl _)); clear hM hg) | (go_at_call 14; refine (Tryd.strings_CutPrefix a0 _ _).mono ?_; rintro e w' ⟨rfl, rfl⟩; rw [HPRE.out, HR0.out]) | (go_at_call 15; first | (with_reducible refine (P.keys_letter.calls 60 R0 (ba L) _ HL1.out (tabs_here HT.out HB1.out)).mono ?_; rintro e w2 ⟨rfl, hb2⟩; have HB2 := Aside0.mk (below_step HB1.out hb2); clear hb2) | (with_reducible refine (P.keys_letter.calls 60 a0 (ba (letterL a0.data.toList)) _ HL2.out (tabs_here HT.out HB2.out)).mono ?_; rintro e w3 ⟨rfl, hb3⟩; have HB3 := Aside0.mk (below_step HB2.out hb3); clear hb3)))
            go_ret2
            exact ⟨by first | rfl | (rw [HR.out]; rfl), by first | exact HB3.out | exact HB2.out | exact HB1.out⟩
        · have f2 : ((ba L).toList == R0.toList) = false := eqb_no (by rw [ba_data, HRd.out]; exact e2)
          clear c4 e1 e2
          go_enter Tryd.func9, Tryd.ntmps9
          go_wp2_with (first | (go_at_call 13; refine (names_any _ w.heap.size HTab.out).mono ?_; rintro e w1 ⟨bm, rfl, hM, hg⟩; have hlk := look_go w1 bm a0 hM.own (by unfold maxLen; omega); rw [HK.out] at hlk; have HB1 := Aside0.mk (below_grown HB.out hg (Nat.le_refl _)); clear hM hg) | (go_at_call 14; refine (Tryd.strings_CutPrefix a0 _ _).mono ?_; rintro e w' ⟨rfl, rfl⟩; rw [HPRE.out, HR0.out]) | (go_at_call 15; first | (with_reducible refine (P.keys_letter.calls 60 R0 (ba L) _ HL1.out (tabs_here HT.out HB1.out)).mono ?_; rintro e w2 ⟨rfl, hb2⟩; have HB2 := Aside0.mk (below_step HB1.out hb2); clear hb2) | (with_reducible refine (P.keys_letter.calls 60 a0 (ba (letterL a0.data.toList)) _ HL2.out (tabs_here HT.out HB2.out)).mono ?_; rintro e w3 ⟨rfl, hb3⟩; have HB3 := Aside0.mk (below_step HB2.out hb3); clear hb3)))
          go_ret2
          exact ⟨by first | rfl | (rw [HR.out]; rfl), by first | exact HB3.out | exact HB2.out | exact HB1.out⟩
theorem keys_Bytes.calls (a0 : ByteArray) (r1 : ByteArray) (r2 : Int) (w : World) (h : keys_Bytes.f a0 = some (r1, r2)) (hT : TabsAt w := by first | with_reducible assumption | exact tabs_here (by with_reducible assumption) (by repeat (with_reducible first | assumption | apply below_alloc | apply pw_below_drewN | apply below_drew1 | (refine Below.setCell ?_ ?_ _) | exact Aside0.out (by assumption)))) :
    Calls Tryd.prog 9 #[.string a0] w fun e w' => e = .returned (.tuple #[.string r1, .int .i64 r2]) ∧ Below w.heap.size w w' := by
  unfold keys_Bytes.f at h
  by_cases hs : a0.size ≤ 1000000
  · rw [if_pos hs] at h
    have h' := Option.some.inj h
    simp only [Prod.mk.injEq] at h'
    obtain ⟨rfl, rfl⟩ := h'
    exact bytes_any a0 w hs hT _ rfl
  · rw [if_neg hs] at h; cases h
end Go.Proofs.YtbnpcnpdeinacaaDoor
end
section
namespace Go.Proofs.YtbnpcnpdeinacaaDoor.P
open Go.RowKit Go.Proofs.YtbnpcnpdeinacaaDoor Go.Proofs.YtbnpcnpdeinacaaDoorW.PrintWords Go.Proofs.YtbnpcnpdeinacaaDoorW.PrintLast Go.Proofs.YtbnpcnpdeinacaaDoorW.PrintMore
attribute [local go_sem] max2_int min2_int max_two min_two max_three min_three max_four min_four   -- for this text's walks alone
set_option linter.unusedVariables false
set_option linter.unusedSimpArgs false
def backseatref03_Same.l0 : Nat → List ByteArray → List ByteArray → Int → Int → Option (Bool)
  | 0, _, _, _, _ => none
  | k + 1, x0, x1, x12, x13 => if x13 < x12 then (if 0 ≤ x13 then (if x13 < (x0.length : Int) then (if x13 < (x1.length : Int) then (if (rdOf ByteArray.empty x0 x13).toList = (rdOf ByteArray.empty x1 x13).toList then (backseatref03_Same.l0 k x0 x1 x12 (wrap64 (x13 + 1))) else (some false)) else (none)) else (none)) else (none)) else (some true)
def backseatref03_Same.f (k : Nat) (l0 : List ByteArray) (l1 : List ByteArray) : Option (Bool) := if (l0.length : Int) = (l1.length : Int) then (backseatref03_Same.l0 k l0 l1 (l0.length : Int) 0) else (some false)
theorem backseatref03_Same.mono_l : ∀ k, (∀ y0 y1 y2 y3, LeO (backseatref03_Same.l0 k y0 y1 y2 y3) (backseatref03_Same.l0 (k + 1) y0 y1 y2 y3))
  | 0 => fun _ _ _ _ r h => by simp [backseatref03_Same.l0] at h
  | k + 1 => by
    have ih0 := backseatref03_Same.mono_l k
    · intro y0 y1 y2 y3
      unfold backseatref03_Same.l0
      repeat' first
      | (with_reducible exact ih0 _ _ _ _)
      | (with_reducible exact LeO.refl _)
      | (with_reducible exact LeO.none _)
      | (with_reducible refine LeO.ite ?_ ?_)
      | (with_reducible refine LeO.bind ?_ (fun _ => ?_))
      | exact ih0 _ _ _ _
      | exact LeO.none _
      | refine LeO.ite ?_ ?_
      | refine LeO.bind ?_ (fun _ => ?_)
theorem backseatref03_Same.mono : ∀ a0 a1 k, LeO (backseatref03_Same.f k a0 a1) (backseatref03_Same.f (k + 1) a0 a1) := by
  intro a0 a1 k
  have ih0 := backseatref03_Same.mono_l k
  unfold backseatref03_Same.f
  repeat' first
      | (with_reducible exact ih0 _ _ _ _)
      | (with_reducible exact LeO.refl _)
      | (with_reducible exact LeO.none _)
      | (with_reducible refine LeO.ite ?_ ?_)
      | (with_reducible refine LeO.bind ?_ (fun _ => ?_))
      | exact ih0 _ _ _ _
      | exact LeO.none _
      | refine LeO.ite ?_ ?_
      | refine LeO.bind ?_ (fun _ => ?_)
set_option maxHeartbeats 8000000 in
set_option maxRecDepth 100000 in
theorem backseatref03_Same.calls (k : Nat) (A0 : Option Addr) (c0 : Nat) (l0 : List ByteArray) (A1 : Option Addr) (c1 : Nat) (l1 : List ByteArray) (r : Bool) (w : World) (hr0 : Kd.C Kd.string w A0 l0.length l0) (hc0 : l0.length ≤ c0) (hr1 : Kd.C Kd.string w A1 l1.length l1) (hc1 : l1.length ≤ c1) (h : backseatref03_Same.f k l0 l1 = some r) :
    Calls Tryd.prog 7 #[.slice A0 l0.length c0, .slice A1 l1.length c1] w fun e w' => e = .returned (.bool r) ∧ Drawn0 w w' := by
  have HR0 := Aside0.mk hr0
  have HC0 := Aside0.mk hc0
  clear hr0 hc0
  have HR1 := Aside0.mk hr1
  have HC1 := Aside0.mk hc1
  clear hr1 hc1
  have H : (if (l0.length : Int) = (l1.length : Int) then (backseatref03_Same.l0 k l0 l1 (l0.length : Int) 0) else (some false)) = some r := h
  clear h
  by_cases c3 : (l0.length : Int) = (l1.length : Int)
  · rw [if_pos c3] at H
    have c3b0 : ((l0.length : Int) == (l1.length : Int)) = true := beq_iff_eq.mpr c3
    have c3b1 : ((l0.length : Int) != (l1.length : Int)) = false := bne_eq_false_iff_eq.mpr c3
    have c3b2 : (l0.length == l1.length) = true := by first | simpa using c3 | (simp at c3 ⊢; omega)
    clear c3
    have H' := Aside0.mk H
    clear H
    go_enter Tryd.func7, Tryd.ntmps7
    go_wp2
    repeat (go_quiet (fail); try go_wp2)
    go_loopg [13] k (fun kq v13 w' => ∃ (x13_1 : Int), v13 = .int .i64 x13_1 ∧ Aside0 (backseatref03_Same.l0 kq l0 l1 (l0.length : Int) x13_1 = some r) ∧ Aside0 (kq ≤ k) ∧ Drawn0 w w')
    case atStart => exact ⟨(0), (by first | rfl | (simp; done) | (simp [*]; done)), H', ⟨Nat.le_refl _⟩, by repeat (first | exact Drawn0.refl _ | apply Drawn0.step)⟩
    case round =>
      clear H'
      try clear c1
      try clear p2
      try clear c3
      try clear c3b0
      try clear c3b1
      try clear c3b2
      obtain ⟨x13_1, rfl, HA, HK1, ⟨m1, rfl⟩⟩ := hrel
      cases gk with
      | zero => exact absurd HA.out (by simp [backseatref03_Same.l0])
      | succ k1 =>
        have H := HA.out
        clear HA
        simp only [backseatref03_Same.l0] at H
        by_cases c4 : x13_1 < (l0.length : Int)
        · rw [if_pos c4] at H
          have c4b0 : decide (x13_1 < (l0.length : Int)) = true := decide_eq_true c4
          clear c4
          by_cases c5 : 0 ≤ x13_1
          · rw [if_pos c5] at H
            have c5b0 : decide (0 ≤ x13_1) = true := decide_eq_true c5
            clear c5
            by_cases c6 : x13_1 < (l0.length : Int)
            · rw [if_pos c6] at H
              have c6b0 : decide (x13_1 < (l0.length : Int)) = true := decide_eq_true c6
              clear c6
              by_cases c7 : x13_1 < (l1.length : Int)
              · rw [if_pos c7] at H
                have c7b0 : decide (x13_1 < (l1.length : Int)) = true := decide_eq_true c7
                clear c7
                by_cases c8 : (rdOf ByteArray.empty l0 x13_1).toList = (rdOf ByteArray.empty l1 x13_1).toList
                · rw [if_pos c8] at H
                  have c8b0 : ((rdOf ByteArray.empty l0 x13_1).toList == (rdOf ByteArray.empty l1 x13_1).toList) = true := beq_iff_eq.mpr c8
                  have c8b1 : ((rdOf ByteArray.empty l0 x13_1).toList != (rdOf ByteArray.empty l1 x13_1).toList) = false := bne_eq_false_iff_eq.mpr c8
                  clear c8
                  have H' := Aside0.mk H
                  clear H
                  have p117 : 0 ≤ (x13_1 : Int) := of_decide_eq_true (by first | (with_reducible assumption) | assumption)
                  have q117 : x13_1 < (l0.length : Int) := of_decide_eq_true (by first | (with_reducible assumption) | assumption)
                  obtain ⟨ad117, e117, hx117_0⟩ := Kd.at_string HR0.out x13_1 p117 q117
                  cases e117
                  replace p117 := eq_true p117
                  replace q117 := eq_true q117
                  have p118 : 0 ≤ (x13_1 : Int) := of_decide_eq_true (by first | (with_reducible assumption) | assumption)
                  have q118 : x13_1 < (l1.length : Int) := of_decide_eq_true (by first | (with_reducible assumption) | assumption)
                  obtain ⟨ad118, e118, hx118_0⟩ := Kd.at_string HR1.out x13_1 p118 q118
                  cases e118
                  replace p118 := eq_true p118
                  replace q118 := eq_true q118
                  go_wp2
                  repeat (go_quiet (fail); try go_wp2)
                  go_roundg k1
                  case measure => have := HK1.out; omega
                  case rel => exact ⟨(wrap64 (x13_1 + 1)), (by first | rfl | (simp; done) | (simp [*]; done)), H', ⟨by have := HK1.out; omega⟩, by repeat (first | exact Drawn0.refl _ | apply Drawn0.step)⟩
                · rw [if_neg c8] at H
                  have c8b0 : ((rdOf ByteArray.empty l0 x13_1).toList == (rdOf ByteArray.empty l1 x13_1).toList) = false := beq_eq_false_iff_ne.mpr c8
                  have c8b1 : ((rdOf ByteArray.empty l0 x13_1).toList != (rdOf ByteArray.empty l1 x13_1).toList) = true := bne_iff_ne.mpr c8
                  obtain rfl := Option.some.inj H
                  have p117 : 0 ≤ (x13_1 : Int) := of_decide_eq_true (by first | (with_reducible assumption) | assumption)
                  have q117 : x13_1 < (l0.length : Int) := of_decide_eq_true (by first | (with_reducible assumption) | assumption)
                  obtain ⟨ad117, e117, hx117_0⟩ := Kd.at_string HR0.out x13_1 p117 q117
                  cases e117
                  replace p117 := eq_true p117
                  replace q117 := eq_true q117
                  have p118 : 0 ≤ (x13_1 : Int) := of_decide_eq_true (by first | (with_reducible assumption) | assumption)
                  have q118 : x13_1 < (l1.length : Int) := of_decide_eq_true (by first | (with_reducible assumption) | assumption)
                  obtain ⟨ad118, e118, hx118_0⟩ := Kd.at_string HR1.out x13_1 p118 q118
                  cases e118
                  replace p118 := eq_true p118
                  replace q118 := eq_true q118
                  go_wp2
                  repeat (go_quiet (fail); try go_wp2)
                  go_ret
                  exact ⟨by first | rfl | (simp; done) | (simp [*]; done), by repeat (first | exact Drawn0.refl _ | apply Drawn0.step)⟩
              · rw [if_neg c7] at H
                exact absurd H (by simp)
            · rw [if_neg c6] at H
              exact absurd H (by simp)
          · rw [if_neg c5] at H
            exact absurd H (by simp)
        · rw [if_neg c4] at H
          have c4b0 : decide (x13_1 < (l0.length : Int)) = false := decide_eq_false c4
          clear c4
          obtain rfl := Option.some.inj H
          go_wp2
          repeat (go_quiet (fail); try go_wp2)
          go_ret
          exact ⟨by first | rfl | (simp; done) | (simp [*]; done), by repeat (first | exact Drawn0.refl _ | apply Drawn0.step)⟩
  · rw [if_neg c3] at H
    have c3b0 : ((l0.length : Int) == (l1.length : Int)) = false := beq_eq_false_iff_ne.mpr c3
    have c3b1 : ((l0.length : Int) != (l1.length : Int)) = true := bne_iff_ne.mpr c3
    have c3b2 : (l0.length == l1.length) = false := by first | simpa using c3 | (simp at c3 ⊢; omega)
    obtain rfl := Option.some.inj H
    go_enter Tryd.func7, Tryd.ntmps7
    go_wp2
    repeat (go_quiet (fail); try go_wp2)
    go_ret
    exact ⟨by first | rfl | (simp; done) | (simp [*]; done), by repeat (first | exact Drawn0.refl _ | apply Drawn0.step)⟩
def backseatlaw03_alive.f  : Option (Bool) := (keys_Decode.f (⟨#[27, 91, 65, 120]⟩ : ByteArray) false).bind fun bt119 => (if (bt119.1.length : Int) = 2 then (if 0 < (bt119.1.length : Int) then (if (rdOf ByteArray.empty bt119.1 0).toList = ([85, 112] : List UInt8) then (if 1 < (bt119.1.length : Int) then (if (rdOf ByteArray.empty bt119.1 1).toList = ([120] : List UInt8) then (some (bt119.2.toList == ([] : List UInt8))) else (some false)) else (none)) else (some false)) else (none)) else (some false))
set_option maxHeartbeats 8000000 in
set_option maxRecDepth 100000 in
theorem backseatlaw03_alive.calls  (r : Bool) (w : World) (h : backseatlaw03_alive.f  = some r) (hT : TabsAt w := by first | with_reducible assumption | exact tabs_here (by with_reducible assumption) (by repeat (with_reducible first | assumption | apply below_alloc | apply pw_below_drewN | apply below_drew1 | (refine Below.setCell ?_ ?_ _) | exact Aside0.out (by assumption)))) :
    Calls Tryd.prog 8 #[] w fun e w' => e = .returned (.bool r) ∧ Below w.heap.size w w' := by
  have HB := Aside0.mk (Below.refl w.heap.size w)
  have H : ((keys_Decode.f (⟨#[27, 91, 65, 120]⟩ : ByteArray) false).bind fun bt119 => (if (bt119.1.length : Int) = 2 then (if 0 < (bt119.1.length : Int) then (if (rdOf ByteArray.empty bt119.1 0).toList = ([85, 112] : List UInt8) then (if 1 < (bt119.1.length : Int) then (if (rdOf ByteArray.empty bt119.1 1).toList = ([120] : List UInt8) then (some (bt119.2.toList == ([] : List UInt8))) else (some false)) else (none)) else (some false)) else (none)) else (some false))) = some r := h
  clear h
  replace H := Option.bind_eq_some_iff.mp H
  obtain ⟨⟨t119, t120⟩, A10, H⟩ := H
  replace H : (if (t119.length : Int) = 2 then (if 0 < (t119.length : Int) then (if (rdOf ByteArray.empty t119 0).toList = ([85, 112] : List UInt8) then (if 1 < (t119.length : Int) then (if (rdOf ByteArray.empty t119 1).toList = ([120] : List UInt8) then (some (t120.toList == ([] : List UInt8))) else (some false)) else (none)) else (some false)) else (none)) else (some false)) = some r := H
  have A1 := Aside0.mk A10
  clear A10
  by_cases c2 : (t119.length : Int) = 2
  · rw [if_pos c2] at H
    have c2b0 : ((t119.length : Int) == 2) = true := beq_iff_eq.mpr c2
    have c2b1 : ((t119.length : Int) != 2) = false := bne_eq_false_iff_eq.mpr c2
    clear c2
    by_cases c3 : 0 < (t119.length : Int)
    · rw [if_pos c3] at H
      have c3b0 : decide (0 < (t119.length : Int)) = true := decide_eq_true c3
      have c3b1 : decide (0 < t119.length) = true := decide_eq_true (by omega)
      clear c3
      by_cases c4 : (rdOf ByteArray.empty t119 0).toList = ([85, 112] : List UInt8)
      · rw [if_pos c4] at H
        have c4b0 : ((rdOf ByteArray.empty t119 0).toList == ([85, 112] : List UInt8)) = true := beq_iff_eq.mpr c4
        have c4b1 : ((rdOf ByteArray.empty t119 0).toList != ([85, 112] : List UInt8)) = false := bne_eq_false_iff_eq.mpr c4
        clear c4
        by_cases c5 : 1 < (t119.length : Int)
        · rw [if_pos c5] at H
          have c5b0 : decide (1 < (t119.length : Int)) = true := decide_eq_true c5
          have c5b1 : decide (1 < t119.length) = true := decide_eq_true (by omega)
          clear c5
          by_cases c6 : (rdOf ByteArray.empty t119 1).toList = ([120] : List UInt8)
          · rw [if_pos c6] at H
            have c6b0 : ((rdOf ByteArray.empty t119 1).toList == ([120] : List UInt8)) = true := beq_iff_eq.mpr c6
            have c6b1 : ((rdOf ByteArray.empty t119 1).toList != ([120] : List UInt8)) = false := bne_eq_false_iff_eq.mpr c6
            clear c6
            obtain rfl := Option.some.inj H
            go_enter Tryd.func8, Tryd.ntmps8
            go_wp2_with (first | ((with_reducible refine gate_callee (f := 6) rfl ?_); refine goesL_ (some 4) rfl rfl Tryd.func6 (by kernel_rfl) rfl #[.string (⟨#[27, 91, 65, 120]⟩ : ByteArray), .bool false] rfl (by (try simp only [List.map_toArray, List.map_cons, List.map_nil]); first | done | rfl | (simp only [List.length_drop, List.length_take]; rfl)) ?_; (with_reducible refine (keys_Decode.calls (⟨#[27, 91, 65, 120]⟩ : ByteArray) false t119 t120 _ A1.out).mono ?_); rintro e w7 ⟨v121, rfl, ho0, hb⟩; refine ⟨_, rfl, ?_⟩; have n0_ := Aside0.mk (Kd.R_lower ho0 (below_size (by repeat (first | (with_reducible first | exact HB.out | apply below_alloc | apply pw_below_drewN | apply below_drew1) | exact HB.out)))); have n1_ := Aside0.mk (below_step (by repeat (first | (with_reducible first | exact HB.out | apply below_alloc | apply pw_below_drewN | apply below_drew1) | exact HB.out)) hb); clear HB; have HO122 := n0_; have HB := n1_; clear n0_ n1_; (try clear hb); (try clear hb2); (try clear hk); (try clear hi); (try clear ho0); obtain ⟨Ao8, co8, eo8⟩ := Kd.R_slice HO122.out; subst eo8; have p123 : 0 ≤ (0 : Int) := (by omega); have q123 : 0 < (t119.length : Int) := of_decide_eq_true (by first | (with_reducible assumption) | assumption); obtain ⟨ad123, e123, hx123_0⟩ := Kd.at_string (Kd.R_reads' HO122.out).2.2 0 p123 q123; cases e123; have qi123 : (0 < t119.length) = True := eq_true (by omega); (try rw [show ((0 : Int)).toNat = 0 from rfl] at hx123_0); (try rw [Addr.add_zero'] at hx123_0); replace p123 := eq_true p123; replace q123 := eq_true q123; have p124 : 0 ≤ (1 : Int) := (by omega); have q124 : 1 < (t119.length : Int) := of_decide_eq_true (by first | (with_reducible assumption) | assumption); obtain ⟨ad124, e124, hx124_0⟩ := Kd.at_string (Kd.R_reads' HO122.out).2.2 1 p124 q124; obtain rfl : ad123 = ad124 := (by injection e124); (try simp only [show (1 : Int).toNat = 1 from rfl, Nat.reduceMul, Nat.reduceEqDiff, Go.Addr.add, ↓reduceIte] at hx124_0); have qi124 : (1 < t119.length) = True := eq_true (by omega); (try rw [show ((1 : Int)).toNat = 1 from rfl] at hx124_0); replace p124 := eq_true p124; replace q124 := eq_true q124))
            go_ret
            exact ⟨by first | rfl | (simp [errW_none, errW_some] <;> rfl) | (simp [*, errW_none, errW_some] <;> rfl), by repeat (first | (with_reducible first | exact HB.out | apply below_alloc | apply pw_below_drewN | apply below_drew1) | exact HB.out)⟩
          · rw [if_neg c6] at H
            have c6b0 : ((rdOf ByteArray.empty t119 1).toList == ([120] : List UInt8)) = false := beq_eq_false_iff_ne.mpr c6
            have c6b1 : ((rdOf ByteArray.empty t119 1).toList != ([120] : List UInt8)) = true := bne_iff_ne.mpr c6
            obtain rfl := Option.some.inj H
            go_enter Tryd.func8, Tryd.ntmps8
            go_wp2_with (first | ((with_reducible refine gate_callee (f := 6) rfl ?_); refine goesL_ (some 4) rfl rfl Tryd.func6 (by kernel_rfl) rfl #[.string (⟨#[27, 91, 65, 120]⟩ : ByteArray), .bool false] rfl (by (try simp only [List.map_toArray, List.map_cons, List.map_nil]); first | done | rfl | (simp only [List.length_drop, List.length_take]; rfl)) ?_; (with_reducible refine (keys_Decode.calls (⟨#[27, 91, 65, 120]⟩ : ByteArray) false t119 t120 _ A1.out).mono ?_); rintro e w9 ⟨v121, rfl, ho0, hb⟩; refine ⟨_, rfl, ?_⟩; have n0_ := Aside0.mk (Kd.R_lower ho0 (below_size (by repeat (first | (with_reducible first | exact HB.out | apply below_alloc | apply pw_below_drewN | apply below_drew1) | exact HB.out)))); have n1_ := Aside0.mk (below_step (by repeat (first | (with_reducible first | exact HB.out | apply below_alloc | apply pw_below_drewN | apply below_drew1) | exact HB.out)) hb); clear HB; have HO122 := n0_; have HB := n1_; clear n0_ n1_; (try clear hb); (try clear hb2); (try clear hk); (try clear hi); (try clear ho0); obtain ⟨Ao10, co10, eo10⟩ := Kd.R_slice HO122.out; subst eo10; have p123 : 0 ≤ (0 : Int) := (by omega); have q123 : 0 < (t119.length : Int) := of_decide_eq_true (by first | (with_reducible assumption) | assumption); obtain ⟨ad123, e123, hx123_0⟩ := Kd.at_string (Kd.R_reads' HO122.out).2.2 0 p123 q123; cases e123; have qi123 : (0 < t119.length) = True := eq_true (by omega); (try rw [show ((0 : Int)).toNat = 0 from rfl] at hx123_0); (try rw [Addr.add_zero'] at hx123_0); replace p123 := eq_true p123; replace q123 := eq_true q123; have p124 : 0 ≤ (1 : Int) := (by omega); have q124 : 1 < (t119.length : Int) := of_decide_eq_true (by first | (with_reducible assumption) | assumption); obtain ⟨ad124, e124, hx124_0⟩ := Kd.at_string (Kd.R_reads' HO122.out).2.2 1 p124 q124; obtain rfl : ad123 = ad124 := (by injection e124); (try simp only [show (1 : Int).toNat = 1 from rfl, Nat.reduceMul, Nat.reduceEqDiff, Go.Addr.add, ↓reduceIte] at hx124_0); have qi124 : (1 < t119.length) = True := eq_true (by omega); (try rw [show ((1 : Int)).toNat = 1 from rfl] at hx124_0); replace p124 := eq_true p124; replace q124 := eq_true q124))
            go_ret
            exact ⟨by first | rfl | (simp [errW_none, errW_some] <;> rfl) | (simp [*, errW_none, errW_some] <;> rfl), by repeat (first | (with_reducible first | exact HB.out | apply below_alloc | apply pw_below_drewN | apply below_drew1) | exact HB.out)⟩
        · rw [if_neg c5] at H
          exact absurd H (by simp)
      · rw [if_neg c4] at H
        have c4b0 : ((rdOf ByteArray.empty t119 0).toList == ([85, 112] : List UInt8)) = false := beq_eq_false_iff_ne.mpr c4
        have c4b1 : ((rdOf ByteArray.empty t119 0).toList != ([85, 112] : List UInt8)) = true := bne_iff_ne.mpr c4
        obtain rfl := Option.some.inj H
        go_enter Tryd.func8, Tryd.ntmps8
        go_wp2_with (first | ((with_reducible refine gate_callee (f := 6) rfl ?_); refine goesL_ (some 4) rfl rfl Tryd.func6 (by kernel_rfl) rfl #[.string (⟨#[27, 91, 65, 120]⟩ : ByteArray), .bool false] rfl (by (try simp only [List.map_toArray, List.map_cons, List.map_nil]); first | done | rfl | (simp only [List.length_drop, List.length_take]; rfl)) ?_; (with_reducible refine (keys_Decode.calls (⟨#[27, 91, 65, 120]⟩ : ByteArray) false t119 t120 _ A1.out).mono ?_); rintro e w11 ⟨v121, rfl, ho0, hb⟩; refine ⟨_, rfl, ?_⟩; have n0_ := Aside0.mk (Kd.R_lower ho0 (below_size (by repeat (first | (with_reducible first | exact HB.out | apply below_alloc | apply pw_below_drewN | apply below_drew1) | exact HB.out)))); have n1_ := Aside0.mk (below_step (by repeat (first | (with_reducible first | exact HB.out | apply below_alloc | apply pw_below_drewN | apply below_drew1) | exact HB.out)) hb); clear HB; have HO122 := n0_; have HB := n1_; clear n0_ n1_; (try clear hb); (try clear hb2); (try clear hk); (try clear hi); (try clear ho0); obtain ⟨Ao12, co12, eo12⟩ := Kd.R_slice HO122.out; subst eo12; have p123 : 0 ≤ (0 : Int) := (by omega); have q123 : 0 < (t119.length : Int) := of_decide_eq_true (by first | (with_reducible assumption) | assumption); obtain ⟨ad123, e123, hx123_0⟩ := Kd.at_string (Kd.R_reads' HO122.out).2.2 0 p123 q123; cases e123; have qi123 : (0 < t119.length) = True := eq_true (by omega); (try rw [show ((0 : Int)).toNat = 0 from rfl] at hx123_0); (try rw [Addr.add_zero'] at hx123_0); replace p123 := eq_true p123; replace q123 := eq_true q123))
        go_ret
        exact ⟨by first | rfl | (simp [errW_none, errW_some] <;> rfl) | (simp [*, errW_none, errW_some] <;> rfl), by repeat (first | (with_reducible first | exact HB.out | apply below_alloc | apply pw_below_drewN | apply below_drew1) | exact HB.out)⟩
    · rw [if_neg c3] at H
      exact absurd H (by simp)
  · rw [if_neg c2] at H
    have c2b0 : ((t119.length : Int) == 2) = false := beq_eq_false_iff_ne.mpr c2
    have c2b1 : ((t119.length : Int) != 2) = true := bne_iff_ne.mpr c2
    obtain rfl := Option.some.inj H
    go_enter Tryd.func8, Tryd.ntmps8
    go_wp2_with (first | ((with_reducible refine gate_callee (f := 6) rfl ?_); refine goesL_ (some 4) rfl rfl Tryd.func6 (by kernel_rfl) rfl #[.string (⟨#[27, 91, 65, 120]⟩ : ByteArray), .bool false] rfl (by (try simp only [List.map_toArray, List.map_cons, List.map_nil]); first | done | rfl | (simp only [List.length_drop, List.length_take]; rfl)) ?_; (with_reducible refine (keys_Decode.calls (⟨#[27, 91, 65, 120]⟩ : ByteArray) false t119 t120 _ A1.out).mono ?_); rintro e w13 ⟨v121, rfl, ho0, hb⟩; refine ⟨_, rfl, ?_⟩; have n0_ := Aside0.mk (Kd.R_lower ho0 (below_size (by repeat (first | (with_reducible first | exact HB.out | apply below_alloc | apply pw_below_drewN | apply below_drew1) | exact HB.out)))); have n1_ := Aside0.mk (below_step (by repeat (first | (with_reducible first | exact HB.out | apply below_alloc | apply pw_below_drewN | apply below_drew1) | exact HB.out)) hb); clear HB; have HO122 := n0_; have HB := n1_; clear n0_ n1_; (try clear hb); (try clear hb2); (try clear hk); (try clear hi); (try clear ho0); obtain ⟨Ao14, co14, eo14⟩ := Kd.R_slice HO122.out; subst eo14))
    go_ret
    exact ⟨by first | rfl | (simp [errW_none, errW_some] <;> rfl) | (simp [*, errW_none, errW_some] <;> rfl), by repeat (first | (with_reducible first | exact HB.out | apply below_alloc | apply pw_below_drewN | apply below_drew1) | exact HB.out)⟩
end Go.Proofs.YtbnpcnpdeinacaaDoor.P
end
section
namespace Go.Proofs.YtbnpcnpdeinacaaDoor
open Go.RowKit Go.Proofs.YtbnpcnpdeinacaaDoorW.PrintWords Go.Proofs.YtbnpcnpdeinacaaDoorW.PrintLast
theorem bb {w w1 : World} {g : Nat} {o : Obj} (hb : Below w.heap.size w w1) (h : w.heap[g]? = some o) : w1.heap[g]? = some o := blk_below h hb
theorem s1 {α : Type} {a : List α} {i : Nat} {v : α} : a.toArray.setIfInBounds i v = (a.set i v).toArray := List.setIfInBounds_toArray _ _ _
theorem s2 {α : Type} {a : α} {l : List α} {v : α} : (a :: l).set 0 v = v :: l := List.set_cons_zero
theorem s3 {α : Type} {a : α} {l : List α} {i : Nat} {v : α} : (a :: l).set (i + 1) v = a :: l.set i v := List.set_cons_succ
section
variable {P : Program} {md : Region.Mode} {ops : Array Oper} {Q : Exit → Act → World → Prop} {S : World → Prop} {ds : List Nat}
end
abbrev zS := @below_set
abbrev zN := @pw_below_drewN
abbrev zD := @below_drew1
abbrev zA := @below_alloc
abbrev zM := @Aside0.mk
abbrev zL := @World.block_lt_of_cell?
end Go.Proofs.YtbnpcnpdeinacaaDoor
end
