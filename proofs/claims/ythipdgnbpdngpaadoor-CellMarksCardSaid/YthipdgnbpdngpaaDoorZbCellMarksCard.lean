/- backseatlaw04.CellMarks, the tied card: for every four numbers and a look the law returns true and all read as they did. Conditions: unicode/utf8's two tables lie as the program's text lays them (the card ties them); no other. -/
import Derived.Test.YthipdgnbpdngpaaDoorZbTabs
import Derived.Test.YthipdgnbpdngpaaDoorZbMMarks
import Derived.Test.YthipdgnbpdngpaaDoorTie
import Derived.Test.YthipdgnbpdngpaaDoorCards
import Derived.WalkKit
import Derived.ProofKit
import Derived.OpenShut
import Derived.ShutString
import Derived.ChangeOld
import Derived.SizedLaws
import Derived.Lay
import Derived.Below
import Derived.Lib.SmallJoins
import Derived.LaidOnce
import Derived.SevenTiedAt
namespace Go.Proofs.YthipdgnbpdngpaaDoor.cellMarks
open Go.ChangeShapes Go.WideShapes Go.ChangeAt Go.RowKit Go.Shelf Go.Lib Go.Joins Go.Deep
open Go.ChangeMaps (open_string shut_string)
set_option linter.unusedVariables false
set_option linter.unusedSimpArgs false
set_option maxRecDepth 100000 in
theorem open_attr {H : Type} {enc : TypeId × Value → H} {W : World} {base b0 : Nat} {spare : Nat → Bool} {held : Bool} {r : Reach} {v : Value} {d : DataW H} {p : List MemPlace} (hv : Value.okWide Tryd.prog W r b0 38 v) (h : DataW.Trod enc Tryd.prog W base spare held 38 v d p) :
    ∃ f b g : Int, v = .agg #[.int .i64 f, .int .i64 b, .int .i64 g] := by
  obtain ⟨x0, x1, x2, y0, y1, y2, m0, rfl, rfl, rfl, g0, g1, g2⟩ := open_agg3 Tryd.underlying38 (by kernel_rfl) (by kernel_rfl) hv h
  obtain ⟨f, hf0, rfl, _⟩ := DataW.trod_int Tryd.underlying3 g0
  obtain ⟨b, hf1, rfl, _⟩ := DataW.trod_int Tryd.underlying3 g1
  obtain ⟨g, hf2, rfl, _⟩ := DataW.trod_int Tryd.underlying3 g2
  obtain rfl : x0 = .int .i64 f := by simpa using hf0
  obtain rfl : x1 = .int .i64 b := by simpa using hf1
  obtain rfl : x2 = .int .i64 g := by simpa using hf2
  exact ⟨f, b, g, rfl⟩
set_option maxRecDepth 100000 in
theorem open_cell {H : Type} {enc : TypeId × Value → H} {W : World} {base b0 : Nat} {spare : Nat → Bool} {held : Bool} {r : Reach} {v : Value} {d : DataW H} {p : List MemPlace} (hv : Value.okWide Tryd.prog W r b0 40 v) (h : DataW.Trod enc Tryd.prog W base spare held 40 v d p) :
    ∃ (s : ByteArray) (w f b g : Int), v = .agg #[.string s, .int .i64 w, .int .i64 f, .int .i64 b, .int .i64 g] := by
  obtain ⟨cs, rfl, hsz⟩ := okWide_struct Tryd.underlying40 hv
  obtain ⟨l⟩ := cs
  have h5 : Tryd.prog.cellsOf 40 = 5 := by kernel_rfl
  have c9 : Tryd.prog.cellsOf 9 = 1 := by kernel_rfl
  have c3 : Tryd.prog.cellsOf 3 = 1 := by kernel_rfl
  have c38 : Tryd.prog.cellsOf 38 = 3 := by kernel_rfl
  match l, hsz.trans h5 with
  | [e0, e1, e2, e3, e4], _ =>
    obtain ⟨fuel, hf⟩ := h
    obtain ⟨xs, n, _, hx, _, hlen, hg⟩ := DataW.trod_struct Tryd.underlying40 hf
    match xs, hlen with
    | [y0, y1, y2], _ =>
      have g0 := hg 0 _ rfl
      have g1 := hg 1 _ rfl
      have g2 := hg 2 _ rfl
      simp only [c9, c3, c38, Value.cells, List.drop_zero, List.drop_succ_cons, List.take_succ_cons, List.take_zero, List.getElem?_cons_zero, List.getElem?_cons_succ] at g0 g1 g2
      obtain ⟨s, z0, _, _⟩ := DataW.trod_string Tryd.underlying9 g0
      obtain ⟨w, z1, _, _⟩ := DataW.trod_int Tryd.underlying3 g1
      obtain ⟨xs2, n2, _, hx2, _, hlen2, hg2⟩ := DataW.trod_struct Tryd.underlying38 g2
      match xs2, hlen2 with
      | [u0, u1, u2], _ =>
        have k0 := hg2 0 _ rfl
        have k1 := hg2 1 _ rfl
        have k2 := hg2 2 _ rfl
        simp only [c3, List.drop_zero, List.drop_succ_cons, List.take_succ_cons, List.take_zero, List.getElem?_cons_zero, List.getElem?_cons_succ] at k0 k1 k2
        obtain ⟨f, z2, _, _⟩ := DataW.trod_int Tryd.underlying3 k0
        obtain ⟨b, z3, _, _⟩ := DataW.trod_int Tryd.underlying3 k1
        obtain ⟨g, z4, _, _⟩ := DataW.trod_int Tryd.underlying3 k2
        obtain rfl : e0 = .string s := by simpa [c9, c3, c38] using z0
        obtain rfl : e1 = .int .i64 w := by simpa [c9, c3, c38] using z1
        obtain rfl : e2 = .int .i64 f := by simpa [c9, c3, c38] using z2
        obtain rfl : e3 = .int .i64 b := by simpa [c9, c3, c38] using z3
        obtain rfl : e4 = .int .i64 g := by simpa [c9, c3, c38] using z4
        exact ⟨s, w, f, b, g, rfl⟩
theorem laidOut : laidOutB Tryd.prog = true := by kernel_rfl
theorem law (r m n q cf cb cg : Int) (w : World) (hT : TabsAt w) : Calls Tryd.prog 8 #[.int .i32 r, .int .i32 m, .int .i32 n, .int .i32 q, .agg #[.int .i64 cf, .int .i64 cb, .int .i64 cg]] w fun e w' => e = .returned (.bool true) ∧ Below w.heap.size w w' := by
  obtain ⟨k, hk⟩ := CellMarks r m n q cf cb cg
  exact P.backseatlaw04_CellMarks.calls k r m n q cf cb cg true w hk hT
set_option maxRecDepth 100000 in
theorem lifted (os : Os) (started : os.Started) (H : Type) (enc : TypeId × Value → H) :
    ReturnsInHanded {} Tryd.checked os 8 .any (fun w args => (Rows.cellMarksSpec.pre enc Tryd.prog Tryd.f8 [] false w args ∧ laidMetH Tryd.prog Rows.cellMarksRow.laid w) ∧ sizedMet enc Tryd.prog Tryd.f8 (OpenSpec.ofChange Rows.cellMarksSpec) false w args)
      (Rows.cellMarksSpec.post enc Tryd.prog Tryd.f8 false true false false) := by
  refine returnsInHanded_of_change_and (C := Tryd.checked) (X := fun w _ => laidMetH Tryd.prog Rows.cellMarksRow.laid w) (fun _ _ _ hh h => h.of_heap hh) own started (by kernel_rfl) Tryd.func8
    (ChangeSpec.witness_shaped (enc := enc) (C := Tryd.checked) (os := os) (X := fun w _ => laidMetH Tryd.prog Rows.cellMarksRow.laid w) false (World.laidAll Tryd.prog os Rows.cellMarksRow.laid) #[.int .i32 0, .int .i32 0, .int .i32 0, .int .i32 0, .agg #[.int .i64 0, .int .i64 0, .int .i64 0]] 8 (World.laidAll_os _ _ _)
      (World.shaped_of_ZipB (by kernel_rfl) (by kernel_rfl)) (by kernel_rfl) (by kernel_rfl) (by kernel_rfl)
      (by rw [MakeChecks.laidMetH_plain _ _ _ (by kernel_rfl)]; exact laidMet_laidAll _ (by kernel_rfl) (by kernel_rfl))) ?_
  intro W base args ds gs before hval0 hW _ hsz0 hL _
  have hsz : (DataW.weightsEach Tryd.prog (Tryd.f8.params.toList ++ Rows.cellMarksSpec.plain.varTypes Tryd.prog) (ds ++ gs)).all (· ≤ reachBytes) = true := hsz0
  have hval : ∀ (j : Nat) t v, Tryd.f8.params[j]? = some t → args[j]? = some v → Value.okWide Tryd.prog W .any base t v := hval0
  have hW' := hW
  obtain ⟨p, q, hA0, hV, rfl, _, _⟩ := hW
  have hA : DataW.TrodAll enc Tryd.prog W 0 (fun _ => true) true Tryd.f8.params.toList args.toList ds p := hA0
  rw [Tryd.params8] at hA hval
  obtain ⟨v0, vs0, d0, ds0, p0, q0, hargs, rfl, rfl, h0, r0⟩ := trodAll_cons hA
  obtain ⟨v1, vs1, d1, ds1, p1, q1, rfl, rfl, rfl, h1, r1⟩ := trodAll_cons r0
  obtain ⟨v2, vs2, d2, ds2, p2, q2, rfl, rfl, rfl, h2, r2⟩ := trodAll_cons r1
  obtain ⟨v3, vs3, d3, ds3, p3, q3, rfl, rfl, rfl, h3, r3⟩ := trodAll_cons r2
  obtain ⟨v4, vs4, d4, ds4, p4, q4, rfl, rfl, rfl, h4, r4⟩ := trodAll_cons r3
  obtain ⟨rfl, rfl, rfl⟩ := trodAll_nil r4
  obtain rfl : args = #[v0, v1, v2, v3, v4] := by cases args; simp_all
  obtain ⟨rfl, rfl⟩ := trodVars_none hV
  obtain ⟨a0, rfl, rfl, rfl, w0⟩ := open_int Tryd.underlying21 (hval 0 21 v0 rfl rfl) h0
  obtain ⟨a1, rfl, rfl, rfl, w1⟩ := open_int Tryd.underlying21 (hval 1 21 v1 rfl rfl) h1
  obtain ⟨a2, rfl, rfl, rfl, w2⟩ := open_int Tryd.underlying21 (hval 2 21 v2 rfl rfl) h2
  obtain ⟨a3, rfl, rfl, rfl, w3⟩ := open_int Tryd.underlying21 (hval 3 21 v3 rfl rfl) h3
  have k4 := h4
  have lt4 : ∀ x ∈ p4, x.block < W.heap.size := by obtain ⟨m, hm⟩ := k4; exact DataW.trod_lt m _ _ _ hm
  obtain ⟨f4, b4, g4, rfl⟩ := open_attr (hval 4 38 v4 rfl rfl) h4
  clear hA0 hval0 hsz0 hsz
  rw [MakeChecks.laidMetH_plain _ _ _ (by kernel_rfl)] at hL
  have hT : TabsAt W := tabs_of hL (.tail _ (.head _)) (.head _)
  refine (law a0 a1 a2 a3 f4 b4 g4 W hT).mono fun e W' ⟨he, hb⟩ => ?_
  subst he
  exact ⟨_, rfl, _, _, _, [], _, [], hW', trodAll_mk1 (shut_bool Tryd.underlying4 _), (trodAll_cons_mk (shut_int Tryd.underlying21 w0) (trodAll_cons_mk (shut_int Tryd.underlying21 w1) (trodAll_cons_mk (shut_int Tryd.underlying21 w2) (trodAll_cons_mk (shut_int Tryd.underlying21 w3) (trodAll_cons_mk (Below.trod laidOut (by kernel_rfl) (of_decide_eq_true (by kernel_rfl)) k4 hb lt4) trodAll_mk0))))), rfl, hb.frame _, fun h => by cases h⟩
theorem over : Rows.cellMarksRow.holds Tryd.pinned (OpenSpec.ofChange Rows.cellMarksSpec) :=
  OpenClaim.holds_of_wide 8 Tryd.f8 rfl rfl rfl rfl rfl rfl rfl ⟨rfl, rfl, rfl, rfl, rfl⟩ rfl rfl rfl rfl rfl (by kernel_rfl) Tryd.func8 (by kernel_rfl)
    (of_decide_eq_true (by kernel_rfl)) (by unfold Func.isWrapper; first | (rw [if_pos (by decide +kernel)]; kernel_rfl) | (rw [if_neg (by decide +kernel)]; exact ⟨rfl, rfl⟩))
    (fun os started H enc _ => lifted os started H enc)
end Go.Proofs.YthipdgnbpdngpaaDoor.cellMarks
namespace Go.Proofs.YthipdgnbpdngpaaDoor
theorem cellMarks_holds : Rows.CellMarksCardSaid :=
  Claim7.holds_tied_plain_at .later [] [.data, .pinned] true (true, "4c70d1c330509b29c066ec5f802dca863fb53597eb0d91adfccfafa2c14f0452") false cellMarks.over (fun _ h => by cases h) (by kernel_rfl) (fun _ h => by cases h) cellMarks_row_tie rfl ⟨rfl, rfl⟩ (by kernel_rfl) rfl
    (fun f fn hf hfn => by
      obtain rfl : f = 8 := Option.some.inj ((show Tryd.prog.funcNamed "backseat/backseatlaw04.CellMarks" = some 8 by kernel_rfl).symm.trans hf) |>.symm
      obtain rfl : fn = Tryd.f8 := (Option.some.inj (Tryd.func8.symm.trans hfn)).symm
      exact ⟨by kernel_rfl, fun j t ht => by
        rw [Tryd.params8] at ht
        have hm : t ∈ [21, 21, 21, 21, 38] := by simpa using Array.mem_of_getElem? ht
        have hall : ([21, 21, 21, 21, 38].all fun u => !Tryd.prog.wantsStandIn u) = true := by kernel_rfl
        exact (show Tryd.prog.wantsStandIn t = false by simpa using List.all_eq_true.1 hall t hm)⟩)
    (by kernel_rfl)
end Go.Proofs.YthipdgnbpdngpaaDoor
