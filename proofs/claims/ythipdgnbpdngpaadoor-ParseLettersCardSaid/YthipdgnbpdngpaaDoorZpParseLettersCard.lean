/- backseatlaw05.ParseLetters, the tied card: for every slice of letters, every number and every two things done the law returns true and all read as they did. Conditions: unicode/utf8's two tables lie as the program's text lays them (the card ties them); no other. -/
import Derived.Test.YthipdgnbpdngpaaDoorZpTabs
import Derived.Test.YthipdgnbpdngpaaDoorZpMP5
import Derived.Test.YthipdgnbpdngpaaDoorZpSx7c
import Derived.Test.YthipdgnbpdngpaaDoorTie
import Derived.Test.YthipdgnbpdngpaaDoorCards
import Derived.WalkKit
import Derived.ProofKit
import Derived.OpenShut
import Derived.ShutString
import Derived.ChangeOld
import Derived.SizedLaws
import Derived.Lay
import Derived.Below
import Derived.Lib.SmallJoins
import Derived.LaidOnce
import Derived.SevenTiedAt
namespace Go.Proofs.YthipdgnbpdngpaaDoor.parseLetters
open Go.ChangeShapes Go.WideShapes Go.ChangeAt Go.RowKit Go.Shelf Go.Lib Go.Joins Go.Deep Go.Proofs.YthipdgnbpdngpaaDoorW Go.Proofs.YthipdgnbpdngpaaDoorW.PrintWords
open Go.ChangeMaps (open_string shut_string)
set_option linter.unusedVariables false
set_option linter.unusedSimpArgs false
theorem laidOut : laidOutB Tryd.prog = true := by kernel_rfl
set_option maxRecDepth 100000 in
theorem open_do {H : Type} {enc : TypeId × Value → H} {W : World} {base b0 : Nat} {held : Bool} {r : Reach} {v : Value} {d : DataW H} {p : List MemPlace} (hv : Value.okWide Tryd.prog W r b0 62 v) (h : DataW.Trod enc Tryd.prog W base (fun _ => true) held 62 v d p) :
    ∃ (f0 : Int) (f1 : Int) (f2 : Int) (f3 : Int) (A4 : Option Addr) (c4 : Nat) (l4 : List Int) (f5 : Int) (f6 : ByteArray), v = .agg #[.int .i64 f0, .int .i32 f1, .int .i64 f2, .int .i64 f3, .slice A4 l4.length c4, .int .i64 f5, .string f6] ∧ Kd.C (Kd.int .i64) W A4 l4.length l4 ∧ l4.length ≤ c4 := by
  obtain ⟨cs, rfl, hsz⟩ := okWide_struct Tryd.underlying62 hv
  obtain ⟨l⟩ := cs
  have h5 : Tryd.prog.cellsOf 62 = 7 := by kernel_rfl
  have c3 : Tryd.prog.cellsOf 3 = 1 := by kernel_rfl
  have c9 : Tryd.prog.cellsOf 9 = 1 := by kernel_rfl
  have c21 : Tryd.prog.cellsOf 21 = 1 := by kernel_rfl
  have c50 : Tryd.prog.cellsOf 50 = 1 := by kernel_rfl
  match l, hsz.trans h5 with
  | [e0, e1, e2, e3, e4, e5, e6], _ =>
    obtain ⟨fuel, hf⟩ := h
    obtain ⟨xs, n, _, hx, _, hlen, hg⟩ := DataW.trod_struct Tryd.underlying62 hf
    match xs, hlen with
    | [y0, y1, y2, y3, y4, y5, y6], _ =>
      have g0 := hg 0 _ rfl
      have g1 := hg 1 _ rfl
      have g2 := hg 2 _ rfl
      have g3 := hg 3 _ rfl
      have g4 := hg 4 _ rfl
      have g5 := hg 5 _ rfl
      have g6 := hg 6 _ rfl
      simp only [c3, c9, c21, c50, Value.cells, List.drop_zero, List.drop_succ_cons, List.take_succ_cons, List.take_zero, List.getElem?_cons_zero, List.getElem?_cons_succ] at g0 g1 g2 g3 g4 g5 g6
      obtain ⟨f0, z0, _, _⟩ := DataW.trod_int Tryd.underlying3 g0
      obtain ⟨f1, z1, _, _⟩ := DataW.trod_int Tryd.underlying21 g1
      obtain ⟨f2, z2, _, _⟩ := DataW.trod_int Tryd.underlying3 g2
      obtain ⟨f3, z3, _, _⟩ := DataW.trod_int Tryd.underlying3 g3
      obtain ⟨A4, c4x, l4, hz4, hr4, hm4⟩ : ∃ (A : Option Addr) (c : Nat) (l : List Int), e4 = .slice A l.length c ∧ Kd.C (Kd.int .i64) W A l.length l ∧ l.length ≤ c := by
        rcases open_ints Tryd.underlying50 Tryd.underlying3 (by kernel_rfl) g4 with ⟨hcs, _⟩ | ⟨x, len, cap, zs, hcs, _, hl, hm, hz, _, hcell, hwz⟩
        · have he : e4 = .slice none 0 0 := by simpa [c3, c9, c21, c50] using hcs
          exact ⟨none, 0, [], he, Kd.C_nil _ _, Nat.le_refl _⟩
        · have he : e4 = .slice (some x) len cap := by simpa [c3, c9, c21, c50] using hcs
          obtain ⟨l1, hl1, hr1, hm1, hw1, hc1⟩ := ReadsInt.ofRowC (k := .i64) (w := W) (a := some x) (len := len) (cap := cap) (zs := zs) (.inr ⟨_, rfl, hl, hm, by simpa using hz, hcell, hwz⟩)
          subst hl1
          exact ⟨some x, cap, l1, he, Kd.C_of_reads (d := (0 : Int)) (h1 := fun _ => rfl) hr1, hc1⟩
      obtain ⟨f5, z5, _, _⟩ := DataW.trod_int Tryd.underlying3 g5
      obtain ⟨f6, z6, _, _⟩ := DataW.trod_string Tryd.underlying9 g6
      obtain rfl : e0 = .int .i64 f0 := by simpa [c3, c9, c21, c50] using z0
      obtain rfl : e1 = .int .i32 f1 := by simpa [c3, c9, c21, c50] using z1
      obtain rfl : e2 = .int .i64 f2 := by simpa [c3, c9, c21, c50] using z2
      obtain rfl : e3 = .int .i64 f3 := by simpa [c3, c9, c21, c50] using z3
      subst hz4
      obtain rfl : e5 = .int .i64 f5 := by simpa [c3, c9, c21, c50] using z5
      obtain rfl : e6 = .string f6 := by simpa [c3, c9, c21, c50] using z6
      exact ⟨f0, f1, f2, f3, A4, c4x, l4, f5, f6, rfl, hr4, hm4⟩
theorem law {W : World} (A0 : Option Addr) (c0 : Nat) (l0 : List Int) (hr0 : Kd.C (Kd.int .i32) W A0 l0.length l0) (hw0 : ∀ n ∈ l0, (Lit.int .i32 n).wf = true) (hc0 : l0.length ≤ c0) (c : Int) (wc : (Lit.int .i64 c).wf = true)
    (a0 a1 a2 a3 : Int) (A4 : Option Addr) (c4 : Nat) (l4 : List Int) (a5 : Int) (a6 : ByteArray) (hra : Kd.C (Kd.int .i64) W A4 l4.length l4) (hca : l4.length ≤ c4)
    (b0 b1 b2 b3 : Int) (B4 : Option Addr) (d4 : Nat) (m4 : List Int) (b5 : Int) (b6 : ByteArray) (hrb : Kd.C (Kd.int .i64) W B4 m4.length m4) (hcb : m4.length ≤ d4) (hT : TabsAt W) :
    Calls Tryd.prog 11 #[.slice A0 l0.length c0, .int .i64 c, .agg #[.int .i64 a0, .int .i32 a1, .int .i64 a2, .int .i64 a3, .slice A4 l4.length c4, .int .i64 a5, .string a6], .agg #[.int .i64 b0, .int .i32 b1, .int .i64 b2, .int .i64 b3, .slice B4 m4.length d4, .int .i64 b5, .string b6]] W fun e w' => e = .returned (.bool true) ∧ Below W.heap.size W w' :=
  S.backseatlaw05_ParseLetters.calls (l0.length + 1000) A0 c0 l0 c a0 a1 a2 a3 A4 c4 l4 a5 a6 b0 b1 b2 b3 B4 d4 m4 b5 b6 true W hr0 hc0 hra hca hrb hcb (ParseLetters l0 (Kd.C_max hr0) c ⟨a0, a1, a2, a3, l4, a5, a6⟩ ⟨b0, b1, b2, b3, m4, b5, b6⟩) hT
set_option maxRecDepth 100000 in
theorem lifted (os : Os) (started : os.Started) (H : Type) (enc : TypeId × Value → H) :
    ReturnsInHanded {} Tryd.checked os 11 .any (fun w args => (Rows.parseLettersSpec.pre enc Tryd.prog Tryd.f11 [] false w args ∧ laidMetH Tryd.prog Rows.parseLettersRow.laid w) ∧ sizedMet enc Tryd.prog Tryd.f11 (OpenSpec.ofChange Rows.parseLettersSpec) false w args)
      (Rows.parseLettersSpec.post enc Tryd.prog Tryd.f11 false true false false) := by
  refine returnsInHanded_of_change_and (C := Tryd.checked) (X := fun w _ => laidMetH Tryd.prog Rows.parseLettersRow.laid w) (fun _ _ _ hh h => h.of_heap hh) own started (by kernel_rfl) Tryd.func11
    (ChangeSpec.witness_shaped (enc := enc) (C := Tryd.checked) (os := os) (X := fun w _ => laidMetH Tryd.prog Rows.parseLettersRow.laid w) false (World.laidAll Tryd.prog os Rows.parseLettersRow.laid) #[.slice none 0 0, .int .i64 0, .agg #[.int .i64 0, .int .i32 0, .int .i64 0, .int .i64 0, .slice none 0 0, .int .i64 0, .string ByteArray.empty], .agg #[.int .i64 0, .int .i32 0, .int .i64 0, .int .i64 0, .slice none 0 0, .int .i64 0, .string ByteArray.empty]] 8 (World.laidAll_os _ _ _)
      (World.shaped_of_ZipB (by kernel_rfl) (by kernel_rfl)) (by kernel_rfl) (by kernel_rfl) (by kernel_rfl)
      (by rw [MakeChecks.laidMetH_plain _ _ _ (by kernel_rfl)]; exact laidMet_laidAll _ (by kernel_rfl) (by kernel_rfl))) ?_
  intro W base args ds gs before hval0 hW _ hsz0 hL _
  have hsz : (DataW.weightsEach Tryd.prog (Tryd.f11.params.toList ++ Rows.parseLettersSpec.plain.varTypes Tryd.prog) (ds ++ gs)).all (· ≤ reachBytes) = true := hsz0
  have hval : ∀ (j : Nat) t v, Tryd.f11.params[j]? = some t → args[j]? = some v → Value.okWide Tryd.prog W .any base t v := hval0
  have hW' := hW
  obtain ⟨p, q, hA0, hV, rfl, _, _⟩ := hW
  have hA : DataW.TrodAll enc Tryd.prog W 0 (fun _ => true) true Tryd.f11.params.toList args.toList ds p := hA0
  rw [Tryd.params11] at hA hval hsz
  obtain ⟨v0, vs0, d0, ds0, p0, q0, hargs, rfl, rfl, h0, r0⟩ := trodAll_cons hA
  obtain ⟨v1, vs1, d1, ds1, p1, q1, rfl, rfl, rfl, h1, r1⟩ := trodAll_cons r0
  obtain ⟨v2, vs2, d2, ds2, p2, q2, rfl, rfl, rfl, h2, r2⟩ := trodAll_cons r1
  obtain ⟨v3, vs3, d3, ds3, p3, q3, rfl, rfl, rfl, h3, r3⟩ := trodAll_cons r2
  obtain ⟨rfl, rfl, rfl⟩ := trodAll_nil r3
  obtain rfl : args = #[v0, v1, v2, v3] := by cases args; simp_all
  obtain ⟨rfl, rfl⟩ := trodVars_none hV
  obtain ⟨a0, len0, cap0, rfl⟩ := okWide_slice Tryd.underlying65 (hval 0 65 v0 rfl rfl)
  have k0 := h0
  have lt0 : ∀ x ∈ p0, x.block < W.heap.size := by obtain ⟨m, hm⟩ := k0; exact DataW.trod_lt m _ _ _ hm
  obtain ⟨l0, hl0, hr0, hw0, hc0⟩ : ∃ l : List Int, len0 = l.length ∧ Kd.C (Kd.int .i32) W a0 l.length l ∧ (∀ n ∈ l, (Lit.int .i32 n).wf = true) ∧ l.length ≤ cap0 := by
    obtain ⟨fuel, hf⟩ := h0
    rcases open_ints Tryd.underlying65 Tryd.underlying21 (by kernel_rfl) hf with ⟨hcs, _⟩ | ⟨x, l, c, zs, hcs, _, hl, hm, hz, _, hcell, hwz⟩
    · simp [Value.cells] at hcs
      obtain ⟨rfl, rfl, rfl⟩ := hcs
      exact ⟨[], rfl, Kd.C_nil _ _, fun _ hn => (by cases hn), Nat.le_refl _⟩
    · simp [Value.cells] at hcs
      obtain ⟨rfl, rfl, rfl⟩ := hcs
      obtain ⟨l1, hl1, hr1, hm1, hw1, hc1⟩ := ReadsInt.ofRowC (k := .i32) (w := W) (zs := zs) (.inr ⟨_, rfl, hl, hm, by simpa using hz, hcell, hwz⟩)
      subst hl1
      exact ⟨l1, rfl, Kd.C_of_reads (d := (0 : Int)) (h1 := fun _ => rfl) hr1, hw1, hc1⟩
  subst hl0
  obtain ⟨a1, rfl, rfl, rfl, w1⟩ := open_int Tryd.underlying3 (hval 1 3 v1 rfl rfl) h1
  have k2 := h2
  have lt2 : ∀ x ∈ p2, x.block < W.heap.size := by obtain ⟨m, hm⟩ := k2; exact DataW.trod_lt m _ _ _ hm
  obtain ⟨f2_0, f2_1, f2_2, f2_3, A2_4, c2_4, l2_4, f2_5, f2_6, rfl, hr2, hc2⟩ := open_do (hval 2 62 v2 rfl rfl) h2
  have k3 := h3
  have lt3 : ∀ x ∈ p3, x.block < W.heap.size := by obtain ⟨m, hm⟩ := k3; exact DataW.trod_lt m _ _ _ hm
  obtain ⟨f3_0, f3_1, f3_2, f3_3, A3_4, c3_4, l3_4, f3_5, f3_6, rfl, hr3, hc3⟩ := open_do (hval 3 62 v3 rfl rfl) h3
  clear hA0 hval0 hsz0 hsz
  rw [MakeChecks.laidMetH_plain _ _ _ (by kernel_rfl)] at hL
  have hT : TabsAt W := tabs_of hL (.tail _ (.head _)) (.head _)
  refine (law a0 cap0 l0 hr0 hw0 hc0 a1 w1 f2_0 f2_1 f2_2 f2_3 A2_4 c2_4 l2_4 f2_5 f2_6 hr2 hc2 f3_0 f3_1 f3_2 f3_3 A3_4 c3_4 l3_4 f3_5 f3_6 hr3 hc3 hT).mono fun e W' ⟨he, hb⟩ => ?_
  subst he
  exact ⟨_, rfl, _, _, _, [], _, [], hW', trodAll_mk1 (shut_bool Tryd.underlying4 _), (trodAll_cons_mk (Below.trod laidOut (by kernel_rfl) (of_decide_eq_true (by kernel_rfl)) k0 hb lt0) (trodAll_cons_mk (shut_int Tryd.underlying3 w1) (trodAll_cons_mk (Below.trod laidOut (by kernel_rfl) (of_decide_eq_true (by kernel_rfl)) k2 hb lt2) (trodAll_cons_mk (Below.trod laidOut (by kernel_rfl) (of_decide_eq_true (by kernel_rfl)) k3 hb lt3) trodAll_mk0)))), rfl, hb.frame _, fun h => by cases h⟩
theorem over : Rows.parseLettersRow.holds Tryd.pinned (OpenSpec.ofChange Rows.parseLettersSpec) :=
  OpenClaim.holds_of_wide 11 Tryd.f11 rfl rfl rfl rfl rfl rfl rfl ⟨rfl, rfl, rfl, rfl, rfl⟩ rfl rfl rfl rfl rfl (by kernel_rfl) Tryd.func11 (by kernel_rfl)
    (of_decide_eq_true (by kernel_rfl)) (by unfold Func.isWrapper; first | (rw [if_pos (by decide +kernel)]; kernel_rfl) | (rw [if_neg (by decide +kernel)]; exact ⟨rfl, rfl⟩))
    (fun os started H enc _ => lifted os started H enc)
end Go.Proofs.YthipdgnbpdngpaaDoor.parseLetters
namespace Go.Proofs.YthipdgnbpdngpaaDoor
theorem parseLetters_holds : Rows.ParseLettersCardSaid :=
  Claim7.holds_tied_plain_at .later [] [.data, .pinned] true (true, "4c70d1c330509b29c066ec5f802dca863fb53597eb0d91adfccfafa2c14f0452") false parseLetters.over (fun _ h => by cases h) (by kernel_rfl) (fun _ h => by cases h) parseLetters_row_tie rfl ⟨rfl, rfl⟩ (by kernel_rfl) rfl
    (fun f fn hf hfn => by
      obtain rfl : f = 11 := Option.some.inj ((show Tryd.prog.funcNamed "backseat/backseatlaw05.ParseLetters" = some 11 by kernel_rfl).symm.trans hf) |>.symm
      obtain rfl : fn = Tryd.f11 := (Option.some.inj (Tryd.func11.symm.trans hfn)).symm
      exact ⟨by kernel_rfl, fun j t ht => by
        rw [Tryd.params11] at ht
        have hm : t ∈ [65, 3, 62, 62] := by simpa using Array.mem_of_getElem? ht
        have hall : ([65, 3, 62, 62].all fun u => !Tryd.prog.wantsStandIn u) = true := by kernel_rfl
        exact (show Tryd.prog.wantsStandIn t = false by simpa using List.all_eq_true.1 hall t hm)⟩)
    (by kernel_rfl)
end Go.Proofs.YthipdgnbpdngpaaDoor
