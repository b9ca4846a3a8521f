-- A copy of the text YtbnpcnpdeinacaaDoorGBytes with what this claim does not reach left out (prune.py, a program of this project).
import Derived.Test.YtbnpcnpdeinacaaDoorZkPx0
import Derived.Lib.Hide
namespace Go.Proofs.YtbnpcnpdeinacaaDoor
open Go.RowKit Go.Lib Go.Proofs.YtbnpcnpdeinacaaDoorW.PrintWords Go.Proofs.YtbnpcnpdeinacaaDoorW.PrintLast
/-- The slice v of bytes xs lies at the head of a row of its own, in a block from base on, whose cells may be written. -/
def OwnM (w : World) (base : Nat) (e : TypeId) (v : Value) (xs : List Int) : Prop :=
  ∃ (g cap : Nat) (cur : Array Value) (fz : Nat × Nat), v = .slice (some ⟨g, 0, none⟩) xs.length cap ∧ base ≤ g ∧ w.heap[g]? = some (.cells cur e fz) ∧ (fz = (0, 0) ∨ cur.size ≤ fz.1) ∧ xs.length ≤ cap ∧ cap ≤ maxLen ∧ cur.size = cap ∧ ∀ j, j < xs.length → cur[j]? = some (.int .u8 (xs.getD j 0))
theorem OwnM.lt {w : World} {base : Nat} {e : TypeId} {v : Value} {xs : List Int} (h : OwnM w base e v xs) : ∀ k, v.ownBlock = some k → base ≤ k ∧ k < w.heap.size := by
  obtain ⟨g, cap, cur, fz, rfl, hb, hg, _⟩ := h
  intro k hk
  simp [Value.ownBlock] at hk
  subst hk
  exact ⟨hb, (Array.getElem?_eq_some_iff.1 hg).1⟩
theorem OwnM.kept {w w' : World} {base : Nat} {e : TypeId} {v : Value} {xs : List Int} (h : OwnM w base e v xs) {row : Option Nat} (hg : w.grownBy w' row) (hne : v.ownBlock ≠ row) : OwnM w' base e v xs := by
  obtain ⟨g, cap, cur, fz, rfl, hb, hgg, r⟩ := h
  refine ⟨g, cap, cur, fz, rfl, hb, ?_, r⟩
  rw [hg.block g (Array.getElem?_eq_some_iff.1 hgg).1 (by simpa [Value.ownBlock] using hne)]
  exact hgg
theorem OwnM.below {w w' : World} {base : Nat} {e : TypeId} {v : Value} {xs : List Int} (h : OwnM w base e v xs) (hb : Below w.heap.size w w') : OwnM w' base e v xs := by
  obtain ⟨g, cap, cur, fz, rfl, hbb, hgg, r⟩ := h
  exact ⟨g, cap, cur, fz, rfl, hbb, (hb.block g (Array.getElem?_eq_some_iff.1 hgg).1).trans hgg, r⟩
theorem OwnM.alloc {w : World} {base : Nat} {e : TypeId} {v : Value} {xs : List Int} (h : OwnM w base e v xs) (o : Obj) : OwnM (w.alloc o) base e v xs := h.below (Below.alloc (Below.refl _ _) (Nat.le_refl _) o)
theorem OwnM.slice {w : World} {base : Nat} {e : TypeId} {v : Value} {xs : List Int} (h : OwnM w base e v xs) : ∃ g cap, v = .slice (some ⟨g, 0, none⟩) xs.length cap := by
  obtain ⟨g, cap, cur, fz, rfl, _⟩ := h
  exact ⟨g, cap, rfl⟩
theorem OwnM.string {P : Program} {w : World} {base : Nat} {e' src dst e : TypeId} {v : Value} {xs : List Int} (hs : P.underlying src = some (.slice e)) (he : P.underlying e = some (.int .u8)) (hd : P.underlying dst = some .string)
    (h : OwnM w base e' v xs) : (convert src dst v).run P w = .ok (.string (strOfNums xs)) w := by
  obtain ⟨g, cap, cur, fz, rfl, hb, hg, _, _, _, hc, hx⟩ := h
  refine run_convert_bytes_arg w src e hs he g 0 xs.length cap xs rfl (fun i hi => ?_) dst hd
  rw [Nat.zero_add, cell_of_row w g i cur e' fz hg]
  exact hx i hi
theorem OwnM.of_bytes (w : World) (base : Nat) (e : TypeId) (s : ByteArray) (hb : base ≤ w.heap.size) (hs : s.size ≤ maxLen) : OwnM (Lib.bytesWorld w e s) base e (.slice (some ⟨w.heap.size, 0, none⟩) s.size (grownCap w s.size 0 e)) (bytesOf s) := by
  have hge := grownCap_ge w s.size 0 e
  refine ⟨w.heap.size, grownCap w s.size 0 e, Lib.bytesCells w e s, _, by rw [bytesOf_length], hb, Lib.bytesWorld_at_new w e s, .inr (Nat.le_refl _), by rw [bytesOf_length]; exact hge, grownCap_le_maxLen w s.size 0 e hs, ?_, ?_⟩
  · simp [Lib.bytesCells, Array.size_append]
    have : s.data.size = s.size := rfl
    omega
  · intro j hj
    rw [bytesOf_length] at hj
    have := Lib.bytesWorld_cell w e s j hj
    rw [cell_of_row _ _ j _ e _ (Lib.bytesWorld_at_new w e s)] at this
    rw [this]
    have h' : j < s.data.toList.length := by rw [data_length]; exact hj
    simp [bytesOf, List.getD_eq_getElem?_getD, List.getElem?_eq_getElem h']
theorem run_store_oneM (P : Program) (w : World) (g o : Nat) (t : TypeId) (v : Value) (cur : Array Value) (fz : Nat × Nat) (hg : w.heap[g]? = some (.cells cur t fz)) (hf : fz = (0, 0) ∨ cur.size ≤ fz.1) (ho : o < cur.size) (h1 : v.oneCell' = true) :
    (storeCells ⟨g, o, none⟩ [v] 0).run P w = .ok () (w.setRow g (cur.setIfInBounds o v)) := by
  have hcell : w.cell? ⟨g, o, none⟩ = some cur[o] := by simp [World.cell?, hg, ho]
  have hfro : w.frozen? ⟨g, o, none⟩ = false := by
    obtain ⟨lo, hi⟩ := fz
    simp only [World.frozen?, hg]
    rcases hf with h | h
    · simp only [Prod.mk.injEq] at h; obtain ⟨rfl, rfl⟩ := h; simp
    · simp only at h; simp; omega
  have hst : (store ((⟨g, o, none⟩ : Addr).add 0) v).run P w = .ok () (w.setRow g (cur.setIfInBounds o v)) := by
    have hadd : (⟨g, o, none⟩ : Addr).add 0 = ⟨g, o, none⟩ := by unfold Addr.add; split <;> simp_all
    rw [hadd, run_store P w _ v _ h1, hcell]
    simp [hfro, setCell_eq_setRow w g o cur t fz v hg]
  simp only [storeCells, Sem.run_bind, hst, Result.andThen_ok]
  rfl
theorem run_appendM {P : Program} (w : World) (base : Nat) (t ty e : TypeId) (i : TypeInfo) (ht : P.underlying t = some (.slice e)) (hi : P.info? e = some i) (hz : i.zero = some (.int .u8 0)) (hsize : i.size = 1) (hby : i.bytes = 1)
    (v : Value) (xs : List Int) (hown : OwnM w base e v xs) (a : Addr) (c : Nat) (x : Int) (hx : w.cell? a = some (.int .u8 x)) (hlen : xs.length + 1 ≤ 140737488355328) (hbase : base ≤ w.heap.size) :
    ∃ v' w', (Builtin.append_ #[t, t] ty #[v, .slice (some a) 1 c]).run P w = .ok v' w' ∧ OwnM w' base e v' (xs ++ [x]) ∧ w.grownBy w' v.ownBlock ∧ (v'.ownBlock = v.ownBlock ∨ ∃ b, v'.ownBlock = some b ∧ w.heap.size ≤ b) := by
  obtain ⟨g, cap, cur, fz, rfl, hb, hg, hf, hnc, hcm, hcs, hxs⟩ := hown
  have ha0 : a.add 0 = a := by unfold Addr.add; cases a with | mk b o s => cases s <;> simp
  have hnews : ∀ j u, ([.int .u8 x] : List Value)[j]? = some u → w.cell? (a.add j) = some u := by
    intro j u hu
    match j, hu with
    | 0, hu => simp at hu; subst hu; rw [ha0]; exact hx
    | j + 1, hu => simp at hu
  have hcat : ∀ (cur' : Array Value), (∀ j, j < xs.length → cur'[j]? = some (.int .u8 (xs.getD j 0))) → cur'[xs.length]? = some (.int .u8 x) → ∀ j, j < (xs ++ [x]).length → cur'[j]? = some (.int .u8 ((xs ++ [x]).getD j 0)) := by
    intro cur' h1 h2 j hj
    simp only [List.length_append, List.length_cons, List.length_nil] at hj
    by_cases hjl : j < xs.length
    · rw [h1 j hjl]; simp [List.getD_eq_getElem?_getD, List.getElem?_append, hjl]
    · have : j = xs.length := by omega
      subst this
      rw [h2]; simp [List.getD_eq_getElem?_getD]
  by_cases hroom : xs.length + 1 ≤ cap
  · have hfc := run_firstCells_some (P := P) w 1 1 a 1 c [.int .u8 x] rfl hnews
    have hst := run_store_oneM P w g xs.length e (.int .u8 x) cur fz hg hf (by omega) rfl
    refine ⟨.slice (some ⟨g, 0, none⟩) (xs.length + 1) cap, w.setRow g (cur.setIfInBounds xs.length (.int .u8 x)), ?_, ⟨g, cap, _, fz, by simp, hb, setRow_heap w g cur _ e fz hg, by simpa using hf, by simpa using hroom, hcm, by simpa using hcs, ?_⟩, ⟨rfl, rfl, rfl, by simp, fun k _ hk => setRow_other w g k _ (fun e => hk (by simp [Value.ownBlock, e]))⟩, .inl rfl⟩
    · simp [Builtin.append_, run_underlying ht, sizeOf, typeInfo, hi, hsize, Builtin.lenOf, hroom, hfc, Addr.add_lit, hst]
    · refine hcat _ (fun j hj => ?_) ?_
      · rw [Array.getElem?_setIfInBounds, if_neg (by omega)]; exact hxs j hj
      · rw [Array.getElem?_setIfInBounds, if_pos rfl, if_pos (by omega)]
  · have holds : ∀ j u, (nums .u8 xs)[j]? = some u → w.cell? ((⟨g, 0, none⟩ : Addr).add j) = some u := by
      intro j u hu
      rw [add_plain, cell_of_row w g j cur e fz hg]
      have hj : j < xs.length := by have := (List.getElem?_eq_some_iff.1 hu).1; rwa [nums_length] at this
      rw [hxs j hj, ← hu]
      simp [nums, List.getElem?_eq_getElem hj, List.getD_eq_getElem?_getD]
    have hr := run_append_grow (P := P) w t ty e i (.int .u8 0) ht hi hz ⟨g, 0, none⟩ xs.length cap (nums .u8 xs) (by rw [nums_length, hsize, Nat.mul_one]) holds a 1 c [.int .u8 x] (by rw [hsize]; rfl) hnews (by omega) (by omega) (by rw [hby]; exact growslice_fits (by omega) (by omega))
    have hge := grownCap_ge w (xs.length + 1) cap e
    have hcm2 : grownCap w (xs.length + 1) cap e ≤ maxLen := grownCap_le_maxLen w (xs.length + 1) cap e (by unfold maxLen; omega)
    refine ⟨_, _, hr, ⟨w.heap.size, _, _, (0, 0), by simp, hbase, heap_alloc_new w.drew _, .inl rfl, by simpa using hge, hcm2, ?_, ?_⟩, ⟨rfl, rfl, rfl, by simp, fun k hk _ => Below.heap_alloc w.drew _ k hk⟩, .inr ⟨_, rfl, Nat.le_refl _⟩⟩
    · have hz1 : (Value.int IntKind.u8 0).cells.size = 1 := rfl
      simp only [Array.size_append, List.size_toArray, size_zeroCells, hz1, nums_length, List.length_cons, List.length_nil]
      omega
    · refine hcat _ (fun j hj => ?_) ?_
      · have h1 : j < (nums .u8 xs).toArray.size := by simpa [nums_length] using hj
        rw [Array.getElem?_append_left (by rw [Array.size_append]; omega), Array.getElem?_append_left h1]
        simp [nums, List.getD_eq_getElem?_getD, List.getElem?_eq_getElem hj]
      · have h1 : (nums .u8 xs).toArray.size = xs.length := by simp [nums_length]
        rw [Array.getElem?_append_left (by rw [Array.size_append, h1]; simp), Array.getElem?_append_right (by rw [h1]; exact Nat.le_refl _), h1]
        simp
theorem wpList_appendM {P : Program} (w : World) {ops : Array Oper} {rest : List Oper} {o : Oper} {a : Act} {Q : Exit → Act → World → Prop} (hgd : o.guard = none) (s y : Operand) (t : TypeId)
    (ho : o.op = .call { callee := .builtin .append, args := #[s, y], argTypes := #[t, t] })
    (base : Nat) (e : TypeId) (i : TypeInfo) (ht : P.underlying t = some (.slice e)) (hi : P.info? e = some i) (hz : i.zero = some (.int .u8 0)) (hsize : i.size = 1) (hby : i.bytes = 1)
    (v : Value) (xs : List Int) (hs : a.eval s = v) (hown : OwnM w base e v xs) (ad : Addr) (c : Nat) (x : Int) (hy : a.eval y = .slice (some ad) 1 c) (hx : w.cell? ad = some (.int .u8 x)) (hlen : xs.length + 1 ≤ 140737488355328) (hbase : base ≤ w.heap.size)
    (h : ∀ v' w', OwnM w' base e v' (xs ++ [x]) → w.grownBy w' v.ownBlock → (v'.ownBlock = v.ownBlock ∨ ∃ b, v'.ownBlock = some b ∧ w.heap.size ≤ b) → wpList P ops Q rest (a.put o.dst v') w') : wpList P ops Q (o :: rest) a w := by
  refine wpList_plain hgd fun K hK => ?_
  obtain ⟨v', w', hr, h2, h3, h4⟩ := run_appendM (P := P) w base t o.type e i ht hi hz hsize hby v xs hown ad c x hx hlen hbase
  unfold Oper.wp execOp
  simp only [ho, resolve, invoke, builtin, Sem.run_bind, Sem.run_pure, Result.andThen_ok, List.map_toArray, List.map_cons, List.map_nil, hs, hy, hr]
  exact hK _ _ (h v' w' h2 h3 h4)
end Go.Proofs.YtbnpcnpdeinacaaDoor
