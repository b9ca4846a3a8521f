-- Copies of the texts YtbnpcnpdeinacaaDoorGFill, YtbnpcnpdeinacaaDoorGNames, YtbnpcnpdeinacaaDoorMK0 with what this claim does not reach left out (prune.py, a program of this project).
import Derived.Test.YtbnpcnpdeinacaaDoorZkGOnce
import Derived.Maps.OwnOps
import Derived.Maps.OwnSet
import Derived.Maps.StringElems
import Derived.StringKeys
import Derived.WideKeyEntry
import Derived.Carry
import Derived.Deep.RegionHeld3
section
namespace Go.Proofs.YtbnpcnpdeinacaaDoor
open Go.RowKit Go.Maps Go.Proofs.YtbnpcnpdeinacaaDoorW.PrintWords Go.Proofs.YtbnpcnpdeinacaaDoorW.PrintLast
set_option linter.unusedVariables false
set_option linter.unusedSimpArgs false
theorem wpList_insert_own {H : Type} {P : Program} (w : World) {ops : Array Oper} {rest : List Oper} {o : Oper} {a : Act} {Q : Exit → Act → World → Prop}
    (hg : o.guard = none) (m x v : Operand) (t : TypeId) (hop : o.op = Op.insert t m x v)
    (k e : TypeId) (K : Keyed P k) (ht : P.underlying t = some (.map k e)) (R : Value → Option (DataW H × List MemPlace)) (b n : Nat) (D : DataW H)
    (hm : a.eval m = .map (some b)) (hown : w.ownsMap P k R b n D) (hn : n < maxLen) (key val : Value) (kl : Lit) (hx : a.eval x = key) (hv : a.eval v = val) (hkey : keyOf P k key = some kl)
    (d : DataW H) (ps : List MemPlace) (hval : R val = some (d, ps))
    (hK : ∀ w', w'.ownsMap P k R b (n + 1) (D.put kl d) → w.grownBy w' (some b) → wpList P ops Q rest (a.put o.dst undef) w') :
    wpList P ops Q (o :: rest) a w := by
  refine wpList_plain hg fun K' hK' => ?_
  obtain ⟨w', hrun, r1, r2⟩ := hown.update K ht hn hkey hval
  unfold Oper.wp
  simp [execOp, hop, hm, hx, hv, hrun, Result.andThen]
  exact hK' _ _ (hK w' r1 r2)
theorem law9 : Keyed Tryd.prog 9 := string_keyed Tryd.underlying9
noncomputable abbrev RS : Value → Option (DataW Unit × List MemPlace) := plainElem (H := Unit) Tryd.prog 9
abbrev Own (W : World) (bm n : Nat) (D : DataW Unit) : Prop := W.ownsMap Tryd.prog 9 RS bm n D
def putS (D : DataW Unit) (k v : List UInt8) : DataW Unit := D.put (.string k) (.lit (.string v))
def lits : List (List UInt8 × List UInt8) := [([85, 112], [27, 91, 65]), ([68, 111, 119, 110], [27, 91, 66]), ([82, 105, 103, 104, 116], [27, 91, 67]), ([76, 101, 102, 116], [27, 91, 68]), ([72, 111, 109, 101], [27, 91, 72]), ([69, 110, 100], [27, 91, 70]), ([73, 110, 115], [27, 91, 50, 126]), ([68, 101, 108], [27, 91, 51, 126]), ([80, 103, 85, 112], [27, 91, 53, 126]), ([80, 103, 68, 110], [27, 91, 54, 126]), ([70, 49], [27, 79, 80]), ([70, 50], [27, 79, 81]), ([70, 51], [27, 79, 82]), ([70, 52], [27, 79, 83]), ([67, 45, 83, 112, 97, 99, 101], [0])]
def D15 : DataW Unit := lits.foldl (fun D p => putS D p.1 p.2) (.map [])
/-- The letters' control keys, the first n; the digits' ones. -/
def ctl (D : DataW Unit) : Nat → DataW Unit
  | 0 => D
  | n + 1 => putS (ctl D n) [67, 45, UInt8.ofNat (97 + n)] [UInt8.ofNat (n + 1)]
def num (D : DataW Unit) : Nat → DataW Unit
  | 0 => D
  | n + 1 => putS (num D n) [67, 45, UInt8.ofNat (52 + n)] [UInt8.ofNat (28 + n)]
structure Inv (w W : World) (pt : Addr) (g bm : Nat) (d m s : Int) (n : Nat) (D : DataW Unit) : Prop where
  hp : W.cell? pt = some (.pointer (some ⟨g, 0, none⟩))
  hg : W.heap[g]? = some (.cells #[.int .u32 d, .int .i32 m, .int .u32 s, .map (some bm)] 52 (0, 0))
  own : Own W bm n D
  grown : w.grownBy W (some g)
  hbm : w.heap.size ≤ bm
  hpt : pt.block < w.heap.size
  hgl : g < w.heap.size
theorem Inv.step {w W W' : World} {pt : Addr} {g bm : Nat} {d m s : Int} {n : Nat} {D : DataW Unit} (h : Inv w W pt g bm d m s n D) (hg : W.grownBy W' none) : Inv w W' pt g bm d m s n D :=
  ⟨(World.cell?_of_block (hg.block _ (World.block_lt_of_cell? _ _ h.hp) (by simp))).trans h.hp, (hg.block g (blk_lt h.hg) (by simp)).trans h.hg, h.own.kept hg (by simp), h.grown.andThen hg (fun j hj => by cases hj), h.hbm, h.hpt, h.hgl⟩
theorem Inv.alloc {w W : World} {pt : Addr} {g bm : Nat} {d m s : Int} {n : Nat} {D : DataW Unit} (h : Inv w W pt g bm d m s n D) (o : Obj) : Inv w (W.alloc o) pt g bm d m s n D := h.step (World.grownBy_alloc W o none)
theorem Inv.drewN {w W : World} {pt : Addr} {g bm : Nat} {d m s : Int} {n : Nat} {D : DataW Unit} (h : Inv w W pt g bm d m s n D) (j : Nat) : Inv w (W.drewN j) pt g bm d m s n D := h.step ⟨rfl, rfl, rfl, Nat.le_refl _, fun _ _ _ => rfl⟩
theorem Inv.drew {w W : World} {pt : Addr} {g bm : Nat} {d m s : Int} {n : Nat} {D : DataW Unit} (h : Inv w W pt g bm d m s n D) : Inv w W.drew pt g bm d m s n D := h.step ⟨rfl, rfl, rfl, Nat.le_refl _, fun _ _ _ => rfl⟩
theorem Inv.upd {w W W' : World} {pt : Addr} {g bm : Nat} {d m s : Int} {n n' : Nat} {D D' : DataW Unit} (h : Inv w W pt g bm d m s n D) (hg : W.grownBy W' (some bm)) (ho : Own W' bm n' D') : Inv w W' pt g bm d m s n' D' :=
  ⟨(World.cell?_of_block (hg.block _ (World.block_lt_of_cell? _ _ h.hp) (by have := h.hbm; have := h.hpt; simp; omega))).trans h.hp, (hg.block g (blk_lt h.hg) (by have := h.hbm; have := h.hgl; simp; omega)).trans h.hg, ho, h.grown.andThen hg (fun j hj => by cases hj; exact .inl h.hbm), h.hbm, h.hpt, h.hgl⟩
theorem Inv.c3 {w W : World} {pt : Addr} {g bm : Nat} {d m s : Int} {n : Nat} {D : DataW Unit} (h : Inv w W pt g bm d m s n D) : W.cell? ⟨g, 3, none⟩ = some (.map (some bm)) := (blk_cell h.hg 3).trans rfl
theorem grown_set (W : World) (a : Addr) (v : Value) : W.grownBy (W.setCell a v) (some a.block) :=
  ⟨rfl, rfl, rfl, by simp, fun k _ hk => Below.heap_setCell W a v k (fun e => hk (by rw [e]))⟩
theorem grown_then {a b c : World} {row : Option Nat} (h : a.grownBy b none) (k : b.grownBy c row) : a.grownBy c row :=
  ⟨k.os.trans h.os, k.tape.trans h.tape, k.output.trans h.output, Nat.le_trans h.size k.size, fun i hi hne => (k.block i (Nat.lt_of_lt_of_le hi h.size) hne).trans (h.block i hi (by simp))⟩
theorem keyS (s : ByteArray) (hs : s.size ≤ maxLen) : keyOf Tryd.prog 9 (.string s) = some (.string s.data.toList) := Go.WideMaps.keyOf_string_mk Tryd.underlying9 hs
theorem conv_one (W : World) (b : Nat) (x : Int) (c : Nat) (h : W.cell? ⟨b, 0, none⟩ = some (.int .u8 x)) : (convert 66 9 (.slice (some ⟨b, 0, none⟩) 1 c)).run Tryd.prog W = .ok (.string (strOfNums [x])) W :=
  run_convert_bytes_arg W 66 5 Tryd.underlying66 Tryd.underlying5 b 0 1 c [x] rfl (fun i hi => by
    obtain rfl : i = 0 := by omega
    exact h) 9 Tryd.underlying9
theorem conv1 (W : World) (x : Int) (c : Nat) : (convert 66 9 (.slice (some ⟨W.heap.size, 0, none⟩) 1 c)).run Tryd.prog (W.alloc (.cells #[.int .u8 x] 5)).drew = .ok (.string (strOfNums [x])) (W.alloc (.cells #[.int .u8 x] 5)).drew := conv_one _ _ _ _ (by simp)
theorem conv2 (W : World) (x y : Int) (c : Nat) : (convert 66 9 (.slice (some ⟨W.heap.size, 0, none⟩) 1 c)).run Tryd.prog ((W.alloc (.cells #[.int .u8 x] 5)).alloc (.cells #[.int .u8 y] 5)).drew = .ok (.string (strOfNums [x])) ((W.alloc (.cells #[.int .u8 x] 5)).alloc (.cells #[.int .u8 y] 5)).drew := conv_one _ _ _ _ (by rw [World.cell?_drew, World.cell?_alloc_past _ _ _ (by simp)]; simp)
theorem conv3 (W : World) (o : Obj) (x : Int) (c : Nat) : (convert 66 9 (.slice (some ⟨W.heap.size + 1, 0, none⟩) 1 c)).run Tryd.prog ((W.alloc o).alloc (.cells #[.int .u8 x] 5)).drew = .ok (.string (strOfNums [x])) ((W.alloc o).alloc (.cells #[.int .u8 x] 5)).drew := by
  have := conv1 (W.alloc o) x c
  simpa using this
theorem wrap_c (base : Int) (i : Nat) (h0 : 0 ≤ base) (h : base + (i : Int) < 250) : IntKind.u8.wrap (IntKind.u8.wrap (base + ((i : Int) + 1)) - 1) = base + i := by
  show ((base + ((i : Int) + 1)) % 256 - 1) % 256 = base + i
  omega
theorem upd_key (W : World) (bm n : Nat) (D : DataW Unit) (a b : Int) (h : Own W bm n D) (hn : n < 1000) : ∃ w', (Instr.mapUpdate 50 (.map (some bm)) (.string ((⟨#[67, 45]⟩ : ByteArray) ++ strOfNums [a])) (.string (strOfNums [b]))).run Tryd.prog W = .ok () w' ∧ Own w' bm (n + 1) (putS D [67, 45, UInt8.ofNat a.toNat] [UInt8.ofNat b.toNat]) ∧ W.grownBy w' (some bm) := by
  have e1 : ((⟨#[67, 45]⟩ : ByteArray) ++ strOfNums [a]).data.toList = [67, 45, UInt8.ofNat a.toNat] := by rw [ByteArray.data_append, Array.toList_append, strOfNums_data]; rfl
  have e2 : (strOfNums [b]).data.toList = [UInt8.ofNat b.toNat] := by rw [strOfNums_data]; rfl
  have hk := keyS ((⟨#[67, 45]⟩ : ByteArray) ++ strOfNums [a]) (by rw [ByteArray.size_append, strOfNums_size]; show 2 + 1 ≤ maxLen; unfold maxLen; omega)
  have hv : RS (.string (strOfNums [b])) = _ := plainElem_string Tryd.underlying9 (by rw [strOfNums_size]; show 1 ≤ maxLen; unfold maxLen; omega)
  rw [e1] at hk
  rw [e2] at hv
  exact h.update law9 Tryd.underlying50 (by unfold maxLen; omega) hk hv
open Go.ChangeMaps (setBlock heap_setBlock_same heap_setBlock_other)
/-- The names and their bytes, as laid. -/
def NAMED : DataW Unit := putS (putS (putS (((num (ctl D15 26) 4).del (.string [67, 45, 105])).del (.string [67, 45, 109])) [69, 110, 116, 101, 114] [13]) [84, 97, 98] [9]) [66, 115, 112] [127]
set_option maxRecDepth 100000 in
theorem zero9 (u : World) : (zeroValue 9).run Tryd.prog u = .ok (.string ByteArray.empty) u := by kernel_rfl
set_option maxRecDepth 100000 in
theorem ent (W : World) (bm n : Nat) (D : DataW Unit) (h : Own W bm n D) (hn : n < 1000) (key vb : ByteArray) (hk : key.size ≤ maxLen) (hv : vb.size ≤ maxLen) :
    ∃ (v0 : Value) (st : Nat) (W1 W2 : World), (Instr.mapEntry 50 (.map (some bm)) (.string key)).run Tryd.prog W = .ok (.tuple #[v0, .int .i64 (st : Int)]) W1 ∧ W.grownBy W1 (some bm) ∧
      (Instr.entryStore 50 (.map (some bm)) (.int .i64 (st : Int)) (.string vb)).run Tryd.prog W1 = .ok () W2 ∧ Own W2 bm (n + 1) (putS D key.data.toList vb.data.toList) ∧ W.grownBy W2 (some bm) := by
  have h0 := h
  obtain ⟨es, clock, hb, F, hs, hD⟩ := h
  obtain ⟨v0, st, es1, clock1, e1, _, e2⟩ := WideElems.entry_then_store (Go.WideMaps.string_law Tryd.underlying9) Tryd.underlying50 zero9 hb F (keyS key hk)
  obtain ⟨es', clock', e3, e4⟩ := e2 (setBlock W bm (.map es1 clock1)) (.string vb) (heap_setBlock_same hb _)
  obtain ⟨w', u1, u2, u3⟩ := h0.update law9 Tryd.underlying50 (by unfold maxLen; omega) (keyS key hk) (plainElem_string Tryd.underlying9 hv)
  have hw' : w' = setBlock W bm (.map es' clock') := by
    have := u1.symm.trans e4
    injection this
  subst hw'
  have hb1 := heap_setBlock_same hb (.map es1 clock1)
  refine ⟨v0, st, _, _, e1, ⟨rfl, rfl, rfl, by simp [setBlock], fun i _ hi => heap_setBlock_other hb _ (fun e => hi (by rw [e]))⟩, e3, ?_, ⟨rfl, rfl, rfl, by simp [setBlock], fun i _ hi => (heap_setBlock_other hb1 _ (fun e => hi (by rw [e]))).trans (heap_setBlock_other hb _ (fun e => hi (by rw [e])))⟩⟩
  obtain ⟨es2, clock2, hb2, r⟩ := u2
  exact ⟨es2, clock2, (heap_setBlock_same hb1 _).trans ((heap_setBlock_same hb _).symm.trans hb2), r⟩
theorem Inv.keep {w W W' : World} {pt : Addr} {g bm : Nat} {d m s : Int} {n : Nat} {D : DataW Unit} (h : Inv w W pt g bm d m s n D) (hg : W.grownBy W' (some bm)) : W'.cell? pt = some (.pointer (some ⟨g, 0, none⟩)) ∧ W'.cell? ⟨g, 3, none⟩ = some (.map (some bm)) :=
  ⟨(World.cell?_of_block (hg.block _ (World.block_lt_of_cell? _ _ h.hp) (by have := h.hbm; have := h.hpt; simp; omega))).trans h.hp, (World.cell?_of_block (a := ⟨g, 3, none⟩) (hg.block g (blk_lt h.hg) (by have := h.hbm; have := h.hgl; simp; omega))).trans h.c3⟩
set_option maxRecDepth 100000 in
set_option maxHeartbeats 8000000 in
theorem fill_any (w : World) (pt : Addr) (g : Nat) (d m s : Int) (hp : w.cell? pt = some (.pointer (some ⟨g, 0, none⟩))) (hg : w.heap[g]? = some (.cells #[.int .u32 d, .int .i32 m, .int .u32 s, .map none] 52 (0, 0))) (hne : pt.block ≠ g) :
    Calls Tryd.prog 24 #[.pointer (some pt)] w fun e w' => e = .returned (.tuple #[]) ∧ Inv w w' pt g w.heap.size d m s 48 NAMED := by
  have hmm := @run_makeMap Tryd.prog
  have hsz : ∀ x : Int, (strOfNums [x]).size = 1 := fun x => strOfNums_size [x]
  have cv1 := conv1
  have cv2 := conv2
  have cv3 := conv3
  have hown := World.ownsMap_made w Tryd.prog 9 RS
  have hgr : w.grownBy (w.alloc (.map #[] 0)) none := World.grownBy_alloc w _ none
  go_enter Tryd.func24, Tryd.ntmps24
  go_wp2_with (first | (refine wpList_insert_own _ rfl _ _ _ 50 rfl 9 9 law9 Tryd.underlying50 _ w.heap.size _ _ rfl hown (by decide) _ _ _ rfl rfl (keyS _ (by decide)) _ [] (plainElem_string Tryd.underlying9 (by decide)) ?_; intro w1 hown1 hgrow1; replace hgr := hgr.andThen hgrow1 (fun j hj => by cases hj; exact .inl (Nat.le_refl _)); replace hown := hown1; clear hown1 hgrow1; (try clear hc3 hf3); have hg1 := (hgr.block g (blk_lt hg) (by simp)).trans hg; have hc3 : w1.cell? ⟨g, 3, none⟩ = some (.map none) := (blk_cell hg1 3).trans rfl; have hf3 := blk_frozen hg1 3; clear hg1))
  have hg1 := (hgr.block g (blk_lt hg) (by simp)).trans hg
  have hp1 : w1.cell? pt = some (.pointer (some ⟨g, 0, none⟩)) := (World.cell?_of_block (hgr.block _ (World.block_lt_of_cell? _ _ hp) (by simp))).trans hp
  have hI : Inv w (w1.setCell ⟨g, 3, none⟩ (.map (some w.heap.size))) pt g w.heap.size d m s 15 D15 :=
    ⟨(World.cell?_setCell_other _ ⟨g, 3, none⟩ pt _ (fun h => hne (by rw [← h]))).trans hp1, blk_put hg1 3 _ rfl, hown.setCell (by have := blk_lt hg; show w.heap.size ≠ g; omega) _, grown_then hgr (grown_set w1 ⟨g, 3, none⟩ _), Nat.le_refl _, World.block_lt_of_cell? _ _ hp, blk_lt hg⟩
  generalize w1.setCell ⟨g, 3, none⟩ (.map (some w.heap.size)) = w2 at hI ⊢
  have HI := Aside0.mk hI
  clear hI hg1 hp1 hown hgr hc3 hf3
  go_loopg [1] 26 (fun kq v1 W => ∃ i : Nat, v1 = .int .u8 (i + 1 : Nat) ∧ Aside0 (i + kq = 26) ∧ Aside0 (Inv w W pt g w.heap.size d m s (15 + i) (ctl D15 i)))
  case atStart => exact ⟨0, rfl, ⟨by omega⟩, HI⟩
  case round =>
    obtain ⟨i, rfl, HK, HI⟩ := hrel
    have hk := HK.out
    have hI := HI.out
    have hcp := hI.hp
    have hc3 := hI.c3
    cases gk with
    | zero =>
      obtain rfl : i = 26 := by omega
      go_wp2
      clear hI hcp hc3 hk
      go_loopg [2] 4 (fun kq v2 W => ∃ i : Nat, v2 = .int .u8 (28 + i : Nat) ∧ Aside0 (i + kq = 4) ∧ Aside0 (Inv w W pt g w.heap.size d m s (41 + i) (num (ctl D15 26) i)))
      case atStart => exact ⟨0, rfl, ⟨by omega⟩, HI⟩
      case round =>
        obtain ⟨i, rfl, HK, HI⟩ := hrel
        have hk := HK.out
        have hI := HI.out
        have hcp := hI.hp
        have hc3 := hI.c3
        cases gk with
        | zero =>
          obtain rfl : i = 4 := by omega
          go_wp2_with (first | (at_delete; refine wpList_delete_own _ rfl _ _ 50 9 rfl 9 law9 Tryd.underlying50 _ w.heap.size _ _ rfl hI.own _ _ rfl (keyS _ (by decide)) ?_; intro w1 hown1 hturn1; replace hI := hI.upd hturn1.grown hown1; clear hcp hc3 hown1 hturn1; have hcp := hI.hp; have hc3 := hI.c3))
          have hI0 := hI.drew
          obtain ⟨v1, s1, WA, WB, a1, b1, a2, o1, b2⟩ := ent _ _ _ _ hI0.own (by decide) ⟨#[69, 110, 116, 101, 114]⟩ ⟨#[13]⟩ (by decide) (by decide)
          have I1 := hI0.upd b2 o1
          obtain ⟨v2, s2, WC, WD, a3, b3, a4, o2, b4⟩ := ent _ _ _ _ I1.own (by decide) ⟨#[84, 97, 98]⟩ ⟨#[9]⟩ (by decide) (by decide)
          have I2 := I1.upd b4 o2
          obtain ⟨v3, s3, WE, WF, a5, b5, a6, o3, b6⟩ := ent _ _ _ _ I2.own (by decide) ⟨#[66, 115, 112]⟩ ⟨#[127]⟩ (by decide) (by decide)
          have I3 := I2.upd b6 o3
          obtain ⟨pA, qA⟩ := hI0.keep b1
          obtain ⟨pC, qC⟩ := I1.keep b3
          obtain ⟨pE, qE⟩ := I2.keep b5
          have pB := I1.hp
          have qB := I1.c3
          have pD := I2.hp
          have qD := I2.c3
          have pF := I3.hp
          have qF := I3.c3
          go_region_held3 (fun w' => w'.cell? pt = some (.pointer (some ⟨g, 0, none⟩)) ∧ w'.cell? ⟨g, 3, none⟩ = some (.map (some w.heap.size))) (go_keep) (fail)
          all_goals go_wp2
          all_goals (go_end0; exact ⟨rfl, I3⟩)
        | succ k1 =>
          have c9 : decide (((28 + i : Nat) : Int) < 32) = true := decide_eq_true (by omega)
          have hW : IntKind.u8.wrap (IntKind.u8.wrap (52 + (28 + (i : Int))) - 28) = 52 + i := by
            show ((52 + (28 + (i : Int))) % 256 - 28) % 256 = 52 + i
            omega
          obtain ⟨wA, hA, oA, gA⟩ := upd_key (((wr.alloc (.cells #[.int .u8 (52 + (i : Int))] 5)).alloc (.cells #[.int .u8 (28 + (i : Int))] 5)).drew) w.heap.size (41 + i) (num (ctl D15 26) i) (52 + (i : Int)) (28 + (i : Int)) ((hI.alloc _).alloc _).drew.own (by omega)
          obtain ⟨wB, hB, oB, gB⟩ := upd_key (((wr.alloc (.cells #[.int .u8 (28 + (i : Int))] 5)).alloc (.cells #[.int .u8 (52 + (i : Int))] 5)).drew) w.heap.size (41 + i) (num (ctl D15 26) i) (52 + (i : Int)) (28 + (i : Int)) ((hI.alloc _).alloc _).drew.own (by omega)
          have IA := ((hI.alloc _).alloc _).drew.upd gA oA
          have IB := ((hI.alloc _).alloc _).drew.upd gB oB
          have eN : (52 + (i : Int)).toNat = 52 + i := by omega
          have eM : (28 + (i : Int)).toNat = 28 + i := by omega
          rw [eN, eM] at IA IB
          clear eN eM
          have pA := IA.hp
          have qA := IA.c3
          have pB := IB.hp
          have qB := IB.c3
          have pa1 := fun o => (hI.alloc o).hp
          have pa2 := fun o o' => ((hI.alloc o).alloc o').hp
          have qa1 := fun o => (hI.alloc o).c3
          have qa2 := fun o o' => ((hI.alloc o).alloc o').c3
          go_wp2
          go_region
          all_goals go_wp2
          all_goals (go_roundg k1; (case measure => omega); (case rel => exact ⟨i + 1, (by congr 1), ⟨by omega⟩, ⟨by first | exact IA | exact IB⟩⟩))
    | succ k1 =>
      have c9 : decide (((i + 1 : Nat) : Int) < 27) = true := decide_eq_true (by omega)
      have hW := wrap_c 97 i (by omega) (by omega)
      obtain ⟨wA, hA, oA, gA⟩ := upd_key (((wr.alloc (.cells #[.int .u8 (97 + (i : Int))] 5)).alloc (.cells #[.int .u8 ((i : Int) + 1)] 5)).drew) w.heap.size (15 + i) (ctl D15 i) (97 + (i : Int)) ((i : Int) + 1) ((hI.alloc _).alloc _).drew.own (by omega)
      obtain ⟨wB, hB, oB, gB⟩ := upd_key (((wr.alloc (.cells #[.int .u8 ((i : Int) + 1)] 5)).alloc (.cells #[.int .u8 (97 + (i : Int))] 5)).drew) w.heap.size (15 + i) (ctl D15 i) (97 + (i : Int)) ((i : Int) + 1) ((hI.alloc _).alloc _).drew.own (by omega)
      have IA := ((hI.alloc _).alloc _).drew.upd gA oA
      have IB := ((hI.alloc _).alloc _).drew.upd gB oB
      have eN : (97 + (i : Int)).toNat = 97 + i := by omega
      have eM : ((i : Int) + 1).toNat = i + 1 := by omega
      rw [eN, eM] at IA IB
      clear eN eM
      have pA := IA.hp
      have qA := IA.c3
      have pB := IB.hp
      have qB := IB.c3
      have pa1 := fun o => (hI.alloc o).hp
      have pa2 := fun o o' => ((hI.alloc o).alloc o').hp
      have qa1 := fun o => (hI.alloc o).c3
      have qa2 := fun o o' => ((hI.alloc o).alloc o').c3
      go_wp2
      go_region
      all_goals go_wp2
      all_goals (go_roundg k1; (case measure => omega); (case rel => exact ⟨i + 1, (by congr 1), ⟨by omega⟩, ⟨by first | exact IA | exact IB⟩⟩))
end Go.Proofs.YtbnpcnpdeinacaaDoor
end
section
namespace Go.Proofs.YtbnpcnpdeinacaaDoor
open Go.RowKit Go.Maps Go.Proofs.YtbnpcnpdeinacaaDoorW.PrintWords Go.Proofs.YtbnpcnpdeinacaaDoorW.PrintLast
set_option linter.unusedVariables false
set_option linter.unusedSimpArgs false
set_option maxRecDepth 100000 in
set_option maxHeartbeats 8000000 in
theorem slow_any (w : World) (pt : Addr) (g : Nat) (hp : w.cell? pt = some (.pointer (some ⟨g, 0, none⟩))) (hg : w.heap[g]? = some (.cells #[.int .u32 0, .int .i32 0, .int .u32 0, .map none] 52 (0, 0))) (hne : pt.block ≠ g) :
    Calls Tryd.prog 39 #[.pointer (some ⟨g, 0, none⟩), .func (.func 24) #[] #[.pointer (some pt)]] w fun e w' => e = .returned (.tuple #[]) ∧ Inv w w' pt g w.heap.size 1 0 0 48 NAMED := by
  have hg1 : (w.setCell ⟨g, 1, none⟩ (.int .i32 1)).heap[g]? = some (.cells #[.int .u32 0, .int .i32 1, .int .u32 0, .map none] 52 (0, 0)) := blk_put hg 1 _ rfl
  have hp1 : (w.setCell ⟨g, 1, none⟩ (.int .i32 1)).cell? pt = some (.pointer (some ⟨g, 0, none⟩)) := (World.cell?_setCell_other _ ⟨g, 1, none⟩ pt _ (fun h => hne (by rw [← h]))).trans hp
  have hl := run_call_load (P := Tryd.prog) Tryd.func51 (by kernel_rfl) (by kernel_rfl) (by kernel_rfl) .u32 (by kernel_rfl) (w := w.setCell ⟨g, 1, none⟩ (.int .i32 1)) (a := ⟨g, 0, none⟩) (x := 0) ((blk_cell hg1 0).trans rfl)
  have hnot : ∀ (x : Bool) (w : World), (Op.unary .not (.bool x)).run Tryd.prog w = .ok (.bool (!x)) w := fun _ _ => rfl
  have c1 : w.cell? ⟨g, 1, none⟩ = some (.int .i32 0) := (blk_cell hg 1).trans rfl
  have f1 := blk_frozen hg 1
  have HG := Aside0.mk hg
  have HG1 := Aside0.mk hg1
  have HP1 := Aside0.mk hp1
  clear hg hg1 hp1
  go_enter_defers Tryd.func39, Tryd.ntmps39
  go_wp2_with (first | (go_at_call 52; refine (lock_free ⟨g, 1, none⟩ _ c1 f1).mono ?_; rintro e w' ⟨rfl, rfl⟩) | (go_at_call 38; go_in) | (go_at_call 24; refine (fill_any _ pt g 0 1 0 HP1.out HG1.out hne).mono ?_; rintro e w2 ⟨rfl, hI⟩))
  have q0 : w2.cell? ⟨g, 0, none⟩ = some (.int .u32 0) := (blk_cell hI.hg 0).trans rfl
  have h2 : (w2.drew.setCell ⟨g, 0, none⟩ (.int .u32 1)).heap[g]? = some (.cells #[.int .u32 1, .int .i32 1, .int .u32 0, .map (some (w.setCell ⟨g, 1, none⟩ (.int .i32 1)).heap.size)] 52 (0, 0)) := blk_put (w := w2.drew) hI.hg 0 _ rfl
  have h3 : ((w2.drew.setCell ⟨g, 0, none⟩ (.int .u32 1)).setCell ⟨g, 1, none⟩ (.int .i32 0)).heap[g]? = some (.cells #[.int .u32 1, .int .i32 0, .int .u32 0, .map (some (w.setCell ⟨g, 1, none⟩ (.int .i32 1)).heap.size)] 52 (0, 0)) := blk_put h2 1 _ rfl
  refine leaves_cons (f := 54) (args := #[.pointer (some ⟨g, 0, none⟩), .bool true]) (by simp) (by simp [go_sem]) ?_
  refine (store_deferred ⟨g, 0, none⟩ (.int .u32 0) .returning _ q0 (blk_frozen hI.hg 0)).mono ?_
  rintro e u' w3 ⟨rfl, rfl, rfl⟩
  refine leaves_cons (f := 53) (args := #[.pointer (some ⟨g, 1, none⟩)]) (by simp [settle]) (by simp [go_sem]) ?_
  refine (unlock_deferred ⟨g, 1, none⟩ _ _ ((blk_cell h2 1).trans rfl) (blk_frozen h2 1)).mono ?_
  rintro e u' w4 ⟨rfl, rfl, rfl⟩
  have hG : w.grownBy ((w2.drew.setCell ⟨g, 0, none⟩ (.int .u32 1)).setCell ⟨g, 1, none⟩ (.int .i32 0)) (some g) :=
    (((grown_set w ⟨g, 1, none⟩ _).andThen hI.drew.grown (fun j hj => .inr hj)).andThen (grown_set w2.drew ⟨g, 0, none⟩ _) (fun j hj => .inr hj)).andThen (grown_set _ ⟨g, 1, none⟩ _) (fun j hj => .inr hj)
  have hR : Inv w ((w2.drew.setCell ⟨g, 0, none⟩ (.int .u32 1)).setCell ⟨g, 1, none⟩ (.int .i32 0)) pt g w.heap.size 1 0 0 48 NAMED := by
    have hs : (w.setCell ⟨g, 1, none⟩ (.int .i32 1)).heap.size = w.heap.size := by simp
    have hb := hI.hbm
    have hgl := hI.hgl
    rw [hs] at h3 hb hgl
    have ho := hI.own
    rw [hs] at ho
    exact ⟨(World.cell?_setCell_other _ ⟨g, 1, none⟩ pt _ (fun h => hne (by rw [← h]))).trans ((World.cell?_setCell_other _ ⟨g, 0, none⟩ pt _ (fun h => hne (by rw [← h]))).trans hI.hp), h3, (World.ownsMap.setCell (World.ownsMap.setCell (w := w2.drew) ho (a := ⟨g, 0, none⟩) (by show w.heap.size ≠ g; omega) _) (a := ⟨g, 1, none⟩) (by show w.heap.size ≠ g; omega) _), hG, Nat.le_refl _, by have := hI.hpt; rw [hs] at this; exact this, hgl⟩
  simp [Leaves, settle, results, Tryd.results39]
  exact hR
set_option maxRecDepth 100000 in
set_option maxHeartbeats 8000000 in
theorem do_first (w : World) (pt : Addr) (g : Nat) (hp : w.cell? pt = some (.pointer (some ⟨g, 0, none⟩))) (hg : w.heap[g]? = some (.cells #[.int .u32 0, .int .i32 0, .int .u32 0, .map none] 52 (0, 0))) (hne : pt.block ≠ g) :
    Calls Tryd.prog 23 #[.pointer (some ⟨g, 0, none⟩), .func (.func 24) #[] #[.pointer (some pt)]] w fun e w' => e = .returned (.tuple #[]) ∧ Inv w w' pt g w.heap.size 1 0 0 48 NAMED := by
  have hl := run_call_load (P := Tryd.prog) Tryd.func51 (by kernel_rfl) (by kernel_rfl) (by kernel_rfl) .u32 (by kernel_rfl) (w := w) (a := ⟨g, 0, none⟩) (x := 0) ((blk_cell hg 0).trans rfl)
  have hnot : ∀ (x : Bool) (w : World), (Op.unary .not (.bool x)).run Tryd.prog w = .ok (.bool (!x)) w := fun _ _ => rfl
  have HG := Aside0.mk hg
  clear hg
  go_enter Tryd.func23, Tryd.ntmps23
  go_wp2_with (first | (go_at_call 39; refine (slow_any _ pt g hp HG.out hne).mono ?_; rintro e w' ⟨rfl, hI⟩) | (go_at_call 38; go_in))
  go_end0
  exact ⟨rfl, hI⟩
theorem do_done (w : World) (g : Nat) (d : Int) (hd : ¬ d = 0) (fv : Value) (hc : w.cell? ⟨g, 0, none⟩ = some (.int .u32 d)) :
    Calls Tryd.prog 23 #[.pointer (some ⟨g, 0, none⟩), fv] w fun e w' => e = .returned (.tuple #[]) ∧ w' = w := by
  have hl := run_call_load (P := Tryd.prog) Tryd.func51 (by kernel_rfl) (by kernel_rfl) (by kernel_rfl) .u32 (by kernel_rfl) hc
  have hnot : ∀ (x : Bool) (w : World), (Op.unary .not (.bool x)).run Tryd.prog w = .ok (.bool (!x)) w := fun _ _ => rfl
  have hd' : (d != 0) = true := by simp [hd]
  go_enter Tryd.func23, Tryd.ntmps23
  go_wp2
  go_end0
  exact ⟨rfl, rfl⟩
/-- keys.table.names lies in block g: the Once is done, the map is block bm. -/
structure TabM (W : World) (g bm : Nat) : Prop where
  hg : W.heap[g]? = some (.cells #[.int .u32 1, .int .i32 0, .int .u32 0, .map (some bm)] 52 (0, 0))
  own : Own W bm 48 NAMED
theorem TabM.below {W W' : World} {g bm : Nat} (h : TabM W g bm) (hb : Below W.heap.size W W') : TabM W' g bm :=
  ⟨blk_below h.hg hb, h.own.kept (row := none) ⟨hb.os, hb.tape, hb.output, hb.size, fun k hk _ => hb.block k hk⟩ (by simp)⟩
set_option maxRecDepth 100000 in
set_option maxHeartbeats 8000000 in
/-- The first asking. -/
theorem names_first (w : World) (g : Nat) (hg : w.heap[g]? = some (.cells #[.int .u32 0, .int .i32 0, .int .u32 0, .map none] 52 (0, 0))) :
    Calls Tryd.prog 13 #[.pointer (some ⟨g, 0, none⟩)] w fun e w' => ∃ bm, e = .returned (.map (some bm)) ∧ TabM w' g bm ∧ w.grownBy w' (some g) := by
  have hlt := blk_lt hg
  have hmf : ∀ (fn : Fn) (first cap : Array Value) (w : World), (Instr.makeFunc fn first cap).run Tryd.prog w = .ok (.func fn first cap) w := fun _ _ _ _ => rfl
  have p0 : (w.alloc (.cells #[.pointer (some ⟨g, 0, none⟩)] 64)).cell? ⟨w.heap.size, 0, none⟩ = some (.pointer (some ⟨g, 0, none⟩)) := by simp
  have hg0 := blk_alloc hg (.cells #[.pointer (some ⟨g, 0, none⟩)] 64)
  have hgr := World.grownBy_alloc w (.cells #[.pointer (some ⟨g, 0, none⟩)] 64) none
  have HG := Aside0.mk hg0
  clear hg hg0
  go_enter Tryd.func13, Tryd.ntmps13
  go_wp2_with (go_at_call 23; refine (do_first _ ⟨w.heap.size, 0, none⟩ g p0 HG.out (by show w.heap.size ≠ g; omega)).mono ?_; rintro e w' ⟨rfl, hI⟩; generalize (w.alloc (.cells #[.pointer (some ⟨g, 0, none⟩)] 64)).heap.size = bm at hI; have hp := hI.hp; have hc := hI.c3)
  go_ret
  exact ⟨_, rfl, ⟨hI.hg, hI.own⟩, grown_then hgr hI.grown⟩
set_option maxRecDepth 100000 in
set_option maxHeartbeats 8000000 in
/-- A later asking. -/
theorem names_again (w : World) (g bm : Nat) (h : TabM w g bm) :
    Calls Tryd.prog 13 #[.pointer (some ⟨g, 0, none⟩)] w fun e w' => e = .returned (.map (some bm)) ∧ Below w.heap.size w w' := by
  have hmf : ∀ (fn : Fn) (first cap : Array Value) (w : World), (Instr.makeFunc fn first cap).run Tryd.prog w = .ok (.func fn first cap) w := fun _ _ _ _ => rfl
  have hg0 := blk_alloc h.hg (.cells #[.pointer (some ⟨g, 0, none⟩)] 64)
  have a0 : (w.alloc (.cells #[.pointer (some ⟨g, 0, none⟩)] 64)).cell? ⟨g, 0, none⟩ = some (.int .u32 1) := (blk_cell hg0 0).trans rfl
  have a3 : (w.alloc (.cells #[.pointer (some ⟨g, 0, none⟩)] 64)).cell? ⟨g, 3, none⟩ = some (.map (some bm)) := (blk_cell hg0 3).trans rfl
  clear hg0
  go_enter Tryd.func13, Tryd.ntmps13
  go_wp2_with (go_at_call 23; refine (do_done _ g 1 (by decide) _ a0).mono ?_; rintro e w' ⟨rfl, rfl⟩)
  go_ret
  exact ⟨rfl, below_alloc (Below.refl _ _) _⟩
end Go.Proofs.YtbnpcnpdeinacaaDoor
end
section
namespace Go.Proofs.YtbnpcnpdeinacaaDoor
open Go.RowKit Go.Maps
set_option linter.unusedVariables false
/-- The named keys, but Esc: a name and its bytes. -/
def NL : List (List UInt8 × List UInt8) := [([66, 115, 112], [127]), ([67, 45, 52], [28]), ([67, 45, 53], [29]), ([67, 45, 54], [30]), ([67, 45, 55], [31]), ([67, 45, 83, 112, 97, 99, 101], [0]), ([67, 45, 97], [1]), ([67, 45, 98], [2]), ([67, 45, 99], [3]), ([67, 45, 100], [4]), ([67, 45, 101], [5]), ([67, 45, 102], [6]), ([67, 45, 103], [7]), ([67, 45, 104], [8]), ([67, 45, 106], [10]), ([67, 45, 107], [11]), ([67, 45, 108], [12]), ([67, 45, 110], [14]), ([67, 45, 111], [15]), ([67, 45, 112], [16]), ([67, 45, 113], [17]), ([67, 45, 114], [18]), ([67, 45, 115], [19]), ([67, 45, 116], [20]), ([67, 45, 117], [21]), ([67, 45, 118], [22]), ([67, 45, 119], [23]), ([67, 45, 120], [24]), ([67, 45, 121], [25]), ([67, 45, 122], [26]), ([68, 101, 108], [27, 91, 51, 126]), ([68, 111, 119, 110], [27, 91, 66]), ([69, 110, 100], [27, 91, 70]), ([69, 110, 116, 101, 114], [13]), ([70, 49], [27, 79, 80]), ([70, 50], [27, 79, 81]), ([70, 51], [27, 79, 82]), ([70, 52], [27, 79, 83]), ([72, 111, 109, 101], [27, 91, 72]), ([73, 110, 115], [27, 91, 50, 126]), ([76, 101, 102, 116], [27, 91, 68]), ([80, 103, 68, 110], [27, 91, 54, 126]), ([80, 103, 85, 112], [27, 91, 53, 126]), ([82, 105, 103, 104, 116], [27, 91, 67]), ([84, 97, 98], [9]), ([85, 112], [27, 91, 65])]
theorem NAMED_eq : NAMED = .map (NL.map fun p => (.string p.1, .lit (.string p.2))) := by kernel_rfl
/-- The named key that bytes begin with. -/
def hitL (s : List UInt8) : Option (List UInt8 × List UInt8) := NL.find? fun p => p.2.isPrefixOf s
/-- Are bytes the beginning of a named key's? -/
def beginsL (s : List UInt8) : Bool := NL.any fun p => s.isPrefixOf p.2
theorem NL_free : ∀ p ∈ NL, ∀ q ∈ NL, p.2.isPrefixOf q.2 = true → p = q := by decide +kernel
theorem prefix_two {a b s : List UInt8} (ha : a.isPrefixOf s = true) (hb : b.isPrefixOf s = true) : a.isPrefixOf b = true ∨ b.isPrefixOf a = true := by
  rw [List.isPrefixOf_iff_prefix] at *
  rw [List.isPrefixOf_iff_prefix]
  exact List.prefix_or_prefix_of_prefix ha hb
theorem hit_eq {s : List UInt8} {p : List UInt8 × List UInt8} (hp : p ∈ NL) (h : p.2.isPrefixOf s = true) : hitL s = some p := by
  unfold hitL
  cases hf : NL.find? (fun p => p.2.isPrefixOf s) with
  | none => exact absurd h (by rw [List.find?_eq_none] at hf; exact hf p hp)
  | some q =>
    have hq := List.find?_some hf
    have hm := List.mem_of_find?_eq_some hf
    rcases prefix_two h hq with h1 | h1
    · rw [NL_free p hp q hm h1]
    · rw [NL_free q hm p hp h1]
theorem hit_none {s : List UInt8} (h : ∀ p ∈ NL, p.2.isPrefixOf s = false) : hitL s = none := by
  unfold hitL
  rw [List.find?_eq_none]
  intro p hp
  rw [h p hp]
  exact Bool.false_ne_true
/-- What a map's reading says at a key, whatever stands for 'none': it is one of the entries. -/
theorem at_NL {k v : List UInt8} (h : ∀ zd : DataW Unit, NAMED.atKey (.string k) zd = .lit (.string v)) : (k, v) ∈ NL := by
  rw [NAMED_eq] at h
  have h0 := h .nil
  have h1 := h (.lit (.bool true))
  simp only [DataW.atKey] at h0 h1
  cases hf : (NL.map fun p => ((Lit.string p.1, DataW.lit (Lit.string p.2)) : Lit × DataW Unit)).find? (fun p => p.1.sameKey (.string k)) with
  | none => rw [hf] at h0; cases h0
  | some q =>
    rw [hf] at h0
    have hm := List.mem_of_find?_eq_some hf
    have hs := List.find?_some hf
    obtain ⟨p, hp, rfl⟩ := List.mem_map.1 hm
    have e1 : p.1 = k := by simpa [Lit.sameKey] using hs
    have e2 : p.2 = v := by simpa using h0
    rw [← e1, ← e2]
    exact hp
theorem has_NL {p : List UInt8 × List UInt8} (hp : p ∈ NL) : Maps.has NAMED (.string p.1) = true := by
  rw [NAMED_eq]
  exact List.any_eq_true.2 ⟨_, List.mem_map.2 ⟨p, hp, rfl⟩, by simp [Lit.sameKey]⟩
theorem keyS_inv {key : Value} {kl : Lit} (h : keyOf Tryd.prog 9 key = some kl) : ∃ s : ByteArray, key = .string s ∧ kl = .string s.data.toList := by
  cases key <;> simp [keyOf, Tryd.underlying9, mapKey] at h
  obtain ⟨_, rfl⟩ := h
  exact ⟨_, rfl, rfl⟩
end Go.Proofs.YtbnpcnpdeinacaaDoor
end
