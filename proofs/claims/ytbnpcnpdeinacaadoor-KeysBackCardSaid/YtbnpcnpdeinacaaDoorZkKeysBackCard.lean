/- backseatlaw03.KeysBack, the tied card: for every row of strings the law returns true and the row reads as it did. Conditions: unicode/utf8's two tables lie as the program's text lays them (the card ties them); no other. -/
import Derived.Test.YtbnpcnpdeinacaaDoorZkTabs
import Derived.Test.YtbnpcnpdeinacaaDoorZkMK5
import Derived.Test.YtbnpcnpdeinacaaDoorTie
import Derived.Test.YtbnpcnpdeinacaaDoorCards
import Derived.WalkKit
import Derived.ProofKit
import Derived.OpenShut
import Derived.ShutString
import Derived.ChangeOld
import Derived.SizedLaws
import Derived.Below
import Derived.Carry
import Derived.Lay
import Derived.LaidOnce
import Derived.SevenTiedAt
import Derived.Deep.Slices
namespace Go.Proofs.YtbnpcnpdeinacaaDoor.keysBack
open Go.ChangeShapes Go.WideShapes Go.ChangeAt Go.RowKit Go.Shelf Go.Lib Go.Proofs.YtbnpcnpdeinacaaDoorW.PrintWords
open Go.ChangeMaps (open_string shut_string)
set_option linter.unusedVariables false
open Go.Deep
theorem read_strs {H : Type} {enc : TypeId × Value → H} {W : World} {base : Nat} {spare : Nat → Bool} {held : Bool} {a : Option Addr} {len cap : Nat} {d : DataW H} {p : List MemPlace} (h : DataW.Trod enc Tryd.prog W base spare held 23 (.slice a len cap) d p) : ∃ l : List ByteArray, l.length = len ∧ len ≤ cap ∧ Kd.C Kd.string W a l.length l := by
  obtain ⟨fuel, hf⟩ := h
  rcases open_slice Tryd.underlying23 hf with ⟨hcs, _⟩ | ⟨x, l, c, m, n, D, Pl, hcs, hb, hl, hm, hmm, hx, hi⟩
  · simp [Value.cells] at hcs
    obtain ⟨rfl, rfl, rfl⟩ := hcs
    exact ⟨[], rfl, Nat.le_refl _, rfl, by simp, fun h => absurd h (by decide)⟩
  · simp [Value.cells] at hcs
    obtain ⟨rfl, rfl, rfl⟩ := hcs
    have hc9 : Tryd.prog.cellsOf 9 = 1 := by kernel_rfl
    have hall : ∀ m', m' ≤ len → ∃ s : List ByteArray, s.length = m' ∧ ∀ j q, s[j]? = some q → W.cell? (x.add j) = some (.string q) := by
      intro m'
      induction m' with
      | zero => exact fun _ => ⟨[], rfl, fun j q h => by simp at h⟩
      | succ m' ih =>
        intro hle
        obtain ⟨s, h1, h2⟩ := ih (by omega)
        obtain ⟨cs', hc, ht⟩ := hi m' (by rw [hmm]; split <;> omega)
        rw [hc9, Nat.mul_one] at hc
        obtain ⟨q, rfl, _⟩ := DataW.trod_string Tryd.underlying9 ht
        obtain ⟨_, _, hat⟩ := World.cells?_some hc
        have hq : W.cell? (x.add m') = some (.string q) := by
          have := hat 0 (by omega)
          rw [Go.Deep.add_add, Nat.add_zero] at this
          exact this
        refine ⟨s ++ [q], by simp [h1], fun j u hj => ?_⟩
        by_cases hjl : j < s.length
        · rw [List.getElem?_append_left hjl] at hj; exact h2 j u hj
        · have hjm : j = m' := by
            have := (List.getElem?_eq_some_iff.1 hj).1
            rw [List.length_append, List.length_singleton] at this
            omega
          subst hjm
          rw [List.getElem?_append_right (by omega), h1, Nat.sub_self] at hj
          have : q = u := by simpa using hj
          subst this
          exact hq
    obtain ⟨s, h1, h2⟩ := hall len (Nat.le_refl _)
    refine ⟨s, h1, hl, rfl, by rw [h1]; unfold maxLen at hm; omega, fun _ => ⟨x, rfl, fun j q hj => ⟨[.string q], rfl, rfl, fun i u hu => ?_⟩⟩⟩
    match i, hu with
    | 0, hu =>
      obtain rfl : Value.string q = u := by simpa using hu
      show W.cell? (x.add (j * 1 + 0)) = _
      rw [Nat.mul_one, Nat.add_zero]
      exact h2 j q hj
    | i + 1, hu => simp at hu
theorem law (a : Option Addr) (c : Nat) (l : List ByteArray) (w : World) (hr : Kd.C Kd.string w a l.length l) (hc : l.length ≤ c) (hT : TabsAt w) : Calls Tryd.prog 5 #[.slice a l.length c] w fun e w' => e = .returned (.bool true) ∧ Below w.heap.size w w' := by
  obtain ⟨k, hk⟩ := KeysBack l
  exact P.backseatlaw03_KeysBack.calls k a c l true w hr hc hk hT
set_option maxRecDepth 100000 in
theorem lifted (os : Os) (started : os.Started) (H : Type) (enc : TypeId × Value → H) :
    ReturnsInHanded {} Tryd.checked os 5 .any (fun w args => (Rows.keysBackSpec.pre enc Tryd.prog Tryd.f5 [] false w args ∧ laidMetH Tryd.prog Rows.keysBackRow.laid w) ∧ sizedMet enc Tryd.prog Tryd.f5 (OpenSpec.ofChange Rows.keysBackSpec) false w args)
      (Rows.keysBackSpec.post enc Tryd.prog Tryd.f5 false true false false) := by
  refine returnsInHanded_of_change_and (C := Tryd.checked) (X := fun w _ => laidMetH Tryd.prog Rows.keysBackRow.laid w) (fun _ _ _ hh h => h.of_heap hh) own started (by kernel_rfl) Tryd.func5
    (ChangeSpec.witness_shaped (enc := enc) (C := Tryd.checked) (os := os) (X := fun w _ => laidMetH Tryd.prog Rows.keysBackRow.laid w) false (World.laidAll Tryd.prog os Rows.keysBackRow.laid) #[.slice none 0 0] 8 (World.laidAll_os _ _ _)
      (World.shaped_of_ZipB (by kernel_rfl) (by kernel_rfl)) (by kernel_rfl) (by kernel_rfl) (by kernel_rfl)
      (by rw [MakeChecks.laidMetH_plain _ _ _ (by kernel_rfl)]; exact laidMet_laidAll _ (by kernel_rfl) (by kernel_rfl))) ?_
  intro W base args ds gs before hval0 hW _ hsz0 hL _
  have hsz : (DataW.weightsEach Tryd.prog (Tryd.f5.params.toList ++ Rows.keysBackSpec.plain.varTypes Tryd.prog) (ds ++ gs)).all (· ≤ reachBytes) = true := hsz0
  have hval : ∀ (j : Nat) t v, Tryd.f5.params[j]? = some t → args[j]? = some v → Value.okWide Tryd.prog W .any base t v := hval0
  have hW' := hW
  obtain ⟨p, q, hA0, hV, rfl, _, _⟩ := hW
  have hA : DataW.TrodAll enc Tryd.prog W 0 (fun _ => true) true Tryd.f5.params.toList args.toList ds p := hA0
  rw [Tryd.params5] at hA hval
  obtain ⟨v0, vs0, d0, ds0, p0, q0, hargs, rfl, rfl, h0, r0⟩ := trodAll_cons hA
  obtain ⟨rfl, rfl, rfl⟩ := trodAll_nil r0
  obtain rfl : args = #[v0] := by cases args; simp_all
  obtain ⟨rfl, rfl⟩ := trodVars_none hV
  obtain ⟨a0, len0, c0, rfl⟩ := okWide_slice Tryd.underlying23 (hval 0 23 v0 rfl rfl)
  have k0 := h0
  have lt0 : ∀ x ∈ p0, x.block < W.heap.size := by obtain ⟨m, hm⟩ := k0; exact DataW.trod_lt m _ _ _ hm
  obtain ⟨l0, rfl, hc0, hr0⟩ := read_strs h0
  clear hA0 hval0 hsz0 hsz
  rw [MakeChecks.laidMetH_plain _ _ _ (by kernel_rfl)] at hL
  have hT : TabsAt W := by first | exact tabs_of hL (.tail _ (.head _)) (.head _) | exact tabs_of hL (.head _) (.tail _ (.head _))
  refine (law a0 c0 l0 W hr0 hc0 hT).mono fun e W' ⟨he, hb⟩ => ?_
  subst he
  exact ⟨_, rfl, _, _, _, [], _, [], hW', trodAll_mk1 (shut_bool Tryd.underlying4 _), (trodAll_cons_mk (Below.trod laidOut (by kernel_rfl) (of_decide_eq_true (by kernel_rfl)) k0 hb lt0) trodAll_mk0), rfl, hb.frame _, fun h => by cases h⟩
theorem over : Rows.keysBackRow.holds Tryd.pinned (OpenSpec.ofChange Rows.keysBackSpec) :=
  OpenClaim.holds_of_wide 5 Tryd.f5 rfl rfl rfl rfl rfl rfl rfl ⟨rfl, rfl, rfl, rfl, rfl⟩ rfl rfl rfl rfl rfl (by kernel_rfl) Tryd.func5 (by kernel_rfl)
    (of_decide_eq_true (by kernel_rfl)) (by unfold Func.isWrapper; first | (rw [if_pos (by decide +kernel)]; kernel_rfl) | (rw [if_neg (by decide +kernel)]; exact ⟨rfl, rfl⟩))
    (fun os started H enc _ => lifted os started H enc)
end Go.Proofs.YtbnpcnpdeinacaaDoor.keysBack
namespace Go.Proofs.YtbnpcnpdeinacaaDoor
theorem keysBack_holds : Rows.KeysBackCardSaid :=
  Claim7.holds_tied_plain_at .later [] [.data, .pinned] true (true, "873d09dcc10a76fc50fcb508cd4677f9400aebdd8a67cb503aeaaab388df25d5") false keysBack.over (fun _ h => by cases h) (by kernel_rfl) (fun _ h => by cases h) keysBack_row_tie rfl ⟨rfl, rfl⟩ (by kernel_rfl) rfl
    (fun f fn hf hfn => by
      obtain rfl : f = 5 := Option.some.inj ((show Tryd.prog.funcNamed "backseat/backseatlaw03.KeysBack" = some 5 by kernel_rfl).symm.trans hf) |>.symm
      obtain rfl : fn = Tryd.f5 := (Option.some.inj (Tryd.func5.symm.trans hfn)).symm
      exact ⟨by kernel_rfl, fun j t ht => by
        rw [Tryd.params5] at ht
        have hm : t ∈ [23] := by simpa using Array.mem_of_getElem? ht
        have hall : ([23].all fun u => !Tryd.prog.wantsStandIn u) = true := by kernel_rfl
        exact (show Tryd.prog.wantsStandIn t = false by simpa using List.all_eq_true.1 hall t hm)⟩)
    (by kernel_rfl)
end Go.Proofs.YtbnpcnpdeinacaaDoor
