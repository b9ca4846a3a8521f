/- backseatlaw05.ParseEnds, the tied card: for every parser and every string the law returns true and both read as they did. Conditions: unicode/utf8's two tables lie as the program's text lays them (the card ties them); no other. -/
import Derived.Test.YthipdgnbpdngpaaDoorZpTabs
import Derived.Test.YthipdgnbpdngpaaDoorZpMP4
import Derived.Test.YthipdgnbpdngpaaDoorTie
import Derived.Test.YthipdgnbpdngpaaDoorCards
import Derived.WalkKit
import Derived.ProofKit
import Derived.OpenShut
import Derived.ShutString
import Derived.ChangeOld
import Derived.SizedLaws
import Derived.Lay
import Derived.Below
import Derived.Lib.SmallJoins
import Derived.LaidOnce
import Derived.SevenTiedAt
namespace Go.Proofs.YthipdgnbpdngpaaDoor.parseEnds
open Go.ChangeShapes Go.WideShapes Go.ChangeAt Go.RowKit Go.Shelf Go.Lib Go.Joins Go.Deep Go.Proofs.YthipdgnbpdngpaaDoorW Go.Proofs.YthipdgnbpdngpaaDoorW.PrintWords
open Go.ChangeMaps (open_string shut_string)
set_option linter.unusedVariables false
set_option linter.unusedSimpArgs false
theorem laidOut : laidOutB Tryd.prog = true := by kernel_rfl
set_option maxRecDepth 100000 in
theorem open_parser {H : Type} {enc : TypeId × Value → H} {W : World} {base b0 : Nat} {held : Bool} {r : Reach} {v : Value} {d : DataW H} {p : List MemPlace} (hv : Value.okWide Tryd.prog W r b0 52 v) (h : DataW.Trod enc Tryd.prog W base (fun _ => true) held 52 v d p) :
    ∃ (f0 : Int) (f1 : Int) (A2 : Option Addr) (c2 : Nat) (l2 : List Int) (f3 : Int) (f4 : ByteArray) (f5 : ByteArray), v = .agg #[.int .i64 f0, .int .i64 f1, .slice A2 l2.length c2, .int .i64 f3, .string f4, .string f5] ∧ Kd.C (Kd.int .i64) W A2 l2.length l2 ∧ l2.length ≤ c2 := by
  obtain ⟨cs, rfl, hsz⟩ := okWide_struct Tryd.underlying52 hv
  obtain ⟨l⟩ := cs
  have h5 : Tryd.prog.cellsOf 52 = 6 := by kernel_rfl
  have c3 : Tryd.prog.cellsOf 3 = 1 := by kernel_rfl
  have c9 : Tryd.prog.cellsOf 9 = 1 := by kernel_rfl
  have c50 : Tryd.prog.cellsOf 50 = 1 := by kernel_rfl
  match l, hsz.trans h5 with
  | [e0, e1, e2, e3, e4, e5], _ =>
    obtain ⟨fuel, hf⟩ := h
    obtain ⟨xs, n, _, hx, _, hlen, hg⟩ := DataW.trod_struct Tryd.underlying52 hf
    match xs, hlen with
    | [y0, y1, y2, y3, y4, y5], _ =>
      have g0 := hg 0 _ rfl
      have g1 := hg 1 _ rfl
      have g2 := hg 2 _ rfl
      have g3 := hg 3 _ rfl
      have g4 := hg 4 _ rfl
      have g5 := hg 5 _ rfl
      simp only [c3, c9, c50, Value.cells, List.drop_zero, List.drop_succ_cons, List.take_succ_cons, List.take_zero, List.getElem?_cons_zero, List.getElem?_cons_succ] at g0 g1 g2 g3 g4 g5
      obtain ⟨f0, z0, _, _⟩ := DataW.trod_int Tryd.underlying3 g0
      obtain ⟨f1, z1, _, _⟩ := DataW.trod_int Tryd.underlying3 g1
      obtain ⟨A2, c2x, l2, hz2, hr2, hm2⟩ : ∃ (A : Option Addr) (c : Nat) (l : List Int), e2 = .slice A l.length c ∧ Kd.C (Kd.int .i64) W A l.length l ∧ l.length ≤ c := by
        rcases open_ints Tryd.underlying50 Tryd.underlying3 (by kernel_rfl) g2 with ⟨hcs, _⟩ | ⟨x, len, cap, zs, hcs, _, hl, hm, hz, _, hcell, hwz⟩
        · have he : e2 = .slice none 0 0 := by simpa [c3, c9, c50] using hcs
          exact ⟨none, 0, [], he, Kd.C_nil _ _, Nat.le_refl _⟩
        · have he : e2 = .slice (some x) len cap := by simpa [c3, c9, c50] using hcs
          obtain ⟨l1, hl1, hr1, hm1, hw1, hc1⟩ := ReadsInt.ofRowC (k := .i64) (w := W) (a := some x) (len := len) (cap := cap) (zs := zs) (.inr ⟨_, rfl, hl, hm, by simpa using hz, hcell, hwz⟩)
          subst hl1
          exact ⟨some x, cap, l1, he, Kd.C_of_reads (d := (0 : Int)) (h1 := fun _ => rfl) hr1, hc1⟩
      obtain ⟨f3, z3, _, _⟩ := DataW.trod_int Tryd.underlying3 g3
      obtain ⟨f4, z4, _, _⟩ := DataW.trod_string Tryd.underlying9 g4
      obtain ⟨f5, z5, _, _⟩ := DataW.trod_string Tryd.underlying9 g5
      obtain rfl : e0 = .int .i64 f0 := by simpa [c3, c9, c50] using z0
      obtain rfl : e1 = .int .i64 f1 := by simpa [c3, c9, c50] using z1
      subst hz2
      obtain rfl : e3 = .int .i64 f3 := by simpa [c3, c9, c50] using z3
      obtain rfl : e4 = .string f4 := by simpa [c3, c9, c50] using z4
      obtain rfl : e5 = .string f5 := by simpa [c3, c9, c50] using z5
      exact ⟨f0, f1, A2, c2x, l2, f3, f4, f5, rfl, hr2, hm2⟩
theorem law {W : World} (f0 f1 : Int) (A2 : Option Addr) (c2 : Nat) (l2 : List Int) (f3 : Int) (f4 f5 : ByteArray) (hr : Kd.C (Kd.int .i64) W A2 l2.length l2) (hc : l2.length ≤ c2) (s : ByteArray) (hT : TabsAt W) :
    Calls Tryd.prog 10 #[.agg #[.int .i64 f0, .int .i64 f1, .slice A2 l2.length c2, .int .i64 f3, .string f4, .string f5], .string s] W fun e w' => e = .returned (.bool true) ∧ Below W.heap.size W w' :=
  S.backseatlaw05_ParseEnds.calls 60 f0 f1 A2 c2 l2 f3 f4 f5 s true W hr hc (ParseEnds ⟨f0, f1, l2, f3, f4, f5⟩ s) hT
set_option maxRecDepth 100000 in
theorem lifted (os : Os) (started : os.Started) (H : Type) (enc : TypeId × Value → H) :
    ReturnsInHanded {} Tryd.checked os 10 .any (fun w args => (Rows.parseEndsSpec.pre enc Tryd.prog Tryd.f10 [] false w args ∧ laidMetH Tryd.prog Rows.parseEndsRow.laid w) ∧ sizedMet enc Tryd.prog Tryd.f10 (OpenSpec.ofChange Rows.parseEndsSpec) false w args)
      (Rows.parseEndsSpec.post enc Tryd.prog Tryd.f10 false true false false) := by
  refine returnsInHanded_of_change_and (C := Tryd.checked) (X := fun w _ => laidMetH Tryd.prog Rows.parseEndsRow.laid w) (fun _ _ _ hh h => h.of_heap hh) own started (by kernel_rfl) Tryd.func10
    (ChangeSpec.witness_shaped (enc := enc) (C := Tryd.checked) (os := os) (X := fun w _ => laidMetH Tryd.prog Rows.parseEndsRow.laid w) false (World.laidAll Tryd.prog os Rows.parseEndsRow.laid) #[.agg #[.int .i64 0, .int .i64 0, .slice none 0 0, .int .i64 0, .string ByteArray.empty, .string ByteArray.empty], .string ByteArray.empty] 8 (World.laidAll_os _ _ _)
      (World.shaped_of_ZipB (by kernel_rfl) (by kernel_rfl)) (by kernel_rfl) (by kernel_rfl) (by kernel_rfl)
      (by rw [MakeChecks.laidMetH_plain _ _ _ (by kernel_rfl)]; exact laidMet_laidAll _ (by kernel_rfl) (by kernel_rfl))) ?_
  intro W base args ds gs before hval0 hW _ hsz0 hL _
  have hsz : (DataW.weightsEach Tryd.prog (Tryd.f10.params.toList ++ Rows.parseEndsSpec.plain.varTypes Tryd.prog) (ds ++ gs)).all (· ≤ reachBytes) = true := hsz0
  have hval : ∀ (j : Nat) t v, Tryd.f10.params[j]? = some t → args[j]? = some v → Value.okWide Tryd.prog W .any base t v := hval0
  have hW' := hW
  obtain ⟨p, q, hA0, hV, rfl, _, _⟩ := hW
  have hA : DataW.TrodAll enc Tryd.prog W 0 (fun _ => true) true Tryd.f10.params.toList args.toList ds p := hA0
  rw [Tryd.params10] at hA hval hsz
  obtain ⟨v0, vs0, d0, ds0, p0, q0, hargs, rfl, rfl, h0, r0⟩ := trodAll_cons hA
  obtain ⟨v1, vs1, d1, ds1, p1, q1, rfl, rfl, rfl, h1, r1⟩ := trodAll_cons r0
  obtain ⟨rfl, rfl, rfl⟩ := trodAll_nil r1
  obtain rfl : args = #[v0, v1] := by cases args; simp_all
  obtain ⟨rfl, rfl⟩ := trodVars_none hV
  have k0 := h0
  have lt0 : ∀ x ∈ p0, x.block < W.heap.size := by obtain ⟨m, hm⟩ := k0; exact DataW.trod_lt m _ _ _ hm
  obtain ⟨f0_0, f0_1, A0_2, c0_2, l0_2, f0_3, f0_4, f0_5, rfl, hr0, hc0⟩ := open_parser (hval 0 52 v0 rfl rfl) h0
  obtain ⟨a1, rfl, rfl, rfl, y1⟩ := open_string Tryd.underlying9 (hval 1 9 v1 rfl rfl) h1
  clear hA0 hval0 hsz0 hsz
  rw [MakeChecks.laidMetH_plain _ _ _ (by kernel_rfl)] at hL
  have hT : TabsAt W := tabs_of hL (.tail _ (.head _)) (.head _)
  refine (law f0_0 f0_1 A0_2 c0_2 l0_2 f0_3 f0_4 f0_5 hr0 hc0 a1 hT).mono fun e W' ⟨he, hb⟩ => ?_
  subst he
  exact ⟨_, rfl, _, _, _, [], _, [], hW', trodAll_mk1 (shut_bool Tryd.underlying4 _), (trodAll_cons_mk (Below.trod laidOut (by kernel_rfl) (of_decide_eq_true (by kernel_rfl)) k0 hb lt0) (trodAll_cons_mk (shut_string Tryd.underlying9 y1) trodAll_mk0)), rfl, hb.frame _, fun h => by cases h⟩
theorem over : Rows.parseEndsRow.holds Tryd.pinned (OpenSpec.ofChange Rows.parseEndsSpec) :=
  OpenClaim.holds_of_wide 10 Tryd.f10 rfl rfl rfl rfl rfl rfl rfl ⟨rfl, rfl, rfl, rfl, rfl⟩ rfl rfl rfl rfl rfl (by kernel_rfl) Tryd.func10 (by kernel_rfl)
    (of_decide_eq_true (by kernel_rfl)) (by unfold Func.isWrapper; first | (rw [if_pos (by decide +kernel)]; kernel_rfl) | (rw [if_neg (by decide +kernel)]; exact ⟨rfl, rfl⟩))
    (fun os started H enc _ => lifted os started H enc)
end Go.Proofs.YthipdgnbpdngpaaDoor.parseEnds
namespace Go.Proofs.YthipdgnbpdngpaaDoor
theorem parseEnds_holds : Rows.ParseEndsCardSaid :=
  Claim7.holds_tied_plain_at .later [] [.data, .pinned] true (true, "4c70d1c330509b29c066ec5f802dca863fb53597eb0d91adfccfafa2c14f0452") false parseEnds.over (fun _ h => by cases h) (by kernel_rfl) (fun _ h => by cases h) parseEnds_row_tie rfl ⟨rfl, rfl⟩ (by kernel_rfl) rfl
    (fun f fn hf hfn => by
      obtain rfl : f = 10 := Option.some.inj ((show Tryd.prog.funcNamed "backseat/backseatlaw05.ParseEnds" = some 10 by kernel_rfl).symm.trans hf) |>.symm
      obtain rfl : fn = Tryd.f10 := (Option.some.inj (Tryd.func10.symm.trans hfn)).symm
      exact ⟨by kernel_rfl, fun j t ht => by
        rw [Tryd.params10] at ht
        have hm : t ∈ [52, 9] := by simpa using Array.mem_of_getElem? ht
        have hall : ([52, 9].all fun u => !Tryd.prog.wantsStandIn u) = true := by kernel_rfl
        exact (show Tryd.prog.wantsStandIn t = false by simpa using List.all_eq_true.1 hall t hm)⟩)
    (by kernel_rfl)
end Go.Proofs.YthipdgnbpdngpaaDoor
