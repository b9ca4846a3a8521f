-- A copy of the text YtbnpcnpdeinacaaDoorGTake with what this claim does not reach left out (prune.py, a program of this project).
import Derived.Test.YtbnpcnpdeinacaaDoorZkMK0
import Derived.Test.YtbnpcnpdeinacaaDoorZkMK1
import Derived.Maps.RangeWalk
namespace Go.Proofs.YtbnpcnpdeinacaaDoor
open Go.RowKit Go.Maps Go.Proofs.YtbnpcnpdeinacaaDoorW.PrintWords Go.Proofs.YtbnpcnpdeinacaaDoorW.PrintLast Go.Proofs.YtbnpcnpdeinacaaDoorW.PrintMore P
set_option linter.unusedVariables false
set_option linter.unusedSimpArgs false
/-- Behind the loop: no named key stands first. -/
def restF (k : Nat) (s : ByteArray) (final begins : Bool) : Option (ByteArray × Int) :=
  if begins = true ∧ final = false then some (⟨#[]⟩, 0)
  else if s.data.toList = [] then none
  else if (s.extract 0 1).data.toList = [27] then P.keys_escaped.f k s final
  else (P.keys_letter.f k s).bind fun l =>
    if l.data.toList = [] then (P.utf_First.f k s).bind fun b => if b.2.2 = 2 then (if final = true then some (⟨#[63]⟩, 1) else some (⟨#[]⟩, 0)) else some (⟨#[63]⟩, b.2.1)
    else some (l, (l.size : Int))
def takeF (k : Nat) (s : ByteArray) (final : Bool) : Option (ByteArray × Int) :=
  match hitL s.data.toList with
  | some p => some (⟨⟨p.1⟩⟩, (p.2.length : Int))
  | none => restF k s final (beginsL s.data.toList)
theorem NL_keys : ∀ p ∈ NL, ∀ q ∈ NL, p.1 = q.1 → p = q := by decide +kernel
theorem ba_of (x : ByteArray) : (⟨⟨x.data.toList⟩⟩ : ByteArray) = x := by cases x; rfl
set_option maxRecDepth 100000 in
set_option maxHeartbeats 8000000 in
theorem take_any (k : Nat) (s : ByteArray) (final : Bool) (r1 : ByteArray) (r2 : Int) (w : World) (bm : Nat) (hown : Own w bm 48 NAMED) (h : takeF k s final = some (r1, r2)) (hT : TabsAt w) :
    Calls Tryd.prog 12 #[.map (some bm), .string s, .bool final] w fun e w' => e = .returned (.tuple #[.string r1, .int .i64 r2]) ∧ Below w.heap.size w w' := by
  have HT := Aside0.mk hT
  go_enter Tryd.func12, Tryd.ntmps12
  go_wp2_with (first | (at_range; refine wpList_range_own _ rfl _ 50 rfl 9 9 law9 Tryd.underlying50 _ bm 48 _ rfl hown ?_; intro w0 hrg0 hg0 hs0) | fail)
  go_frame
  go_loopw [8] (fun v wr => ∃ (left : Lit → Bool) (cnt : Nat) (b : Bool), v = .bool b ∧ wr.ranges Tryd.prog 9 RS bm w.heap.size 48 NAMED left cnt ∧ Below w.heap.size w wr ∧
      (∀ p ∈ NL, left (.string p.1) = false → p.2.isPrefixOf s.data.toList = false) ∧ (b = true → beginsL s.data.toList = true) ∧ (∀ p ∈ NL, left (.string p.1) = false → s.data.toList.isPrefixOf p.2 = true → b = true))
    (fun _ wr => wr.rangeLeft bm w.heap.size)
  case atStart => exact ⟨_, _, false, rfl, hrg0, (Below.refl _ _).grown hg0 (Nat.le_refl _) (fun k hk => by cases hk), fun p hp hl => (by rw [has_NL hp] at hl; cases hl), fun h => (by cases h), fun p hp hl => (by rw [has_NL hp] at hl; cases hl)⟩
  case round =>
    obtain ⟨left, cnt, b, rfl, hrg, hb, hno, hb1, hb2⟩ := hrel
    go_wp2_with (first
      | (at_next; refine wpList_next_ranges _ rfl _ rfl 9 law9 RS Value.string Value.string (fun key kl hk => by obtain ⟨x, e, _⟩ := keyS_inv hk; exact ⟨x, e⟩) (fun v y hv => by obtain ⟨c, e, _⟩ := plainElem_string_inv Tryd.underlying9 hv; exact ⟨c, e⟩) bm w.heap.size 48 _ _ _ rfl hrg ?_ ?_)
      | fail)
    · -- nothing is left
      intro _ hl0
      have hhit : hitL s.data.toList = none := hit_none fun p hp => hno p hp (hl0 _)
      have hbb : b = beginsL s.data.toList := by
        cases hB : beginsL s.data.toList with
        | true =>
          obtain ⟨p, hp, hq⟩ := List.any_eq_true.1 hB
          exact hb2 p hp (hl0 _) hq
        | false =>
          cases b with
          | true => rw [hb1 rfl] at hB; cases hB
          | false => rfl
      unfold takeF at h
      rw [hhit] at h
      simp only at h
      rw [← hbb] at h
      clear hbb hhit hno hb1 hb2 hl0
      unfold restF at h
      have HB := Aside0.mk hb
      have HTr := Aside0.mk (tabs_here HT.out hb)
      clear hb
      by_cases c0 : b = true ∧ final = false
      · rw [if_pos c0] at h
        obtain ⟨rfl, rfl⟩ := c0
        simp only [Option.some.injEq, Prod.mk.injEq] at h
        obtain ⟨rfl, rfl⟩ := h
        go_wp2
        go_ret2
        exact ⟨rfl, HB.out⟩
      rw [if_neg c0] at h
      by_cases c1 : s.data.toList = []
      · rw [if_pos c1] at h; cases h
      rw [if_neg c1] at h
      have hsz : (1 : Int) ≤ (s.size : Int) := by
        rw [show s.size = s.data.toList.length from by rw [Array.length_toList]; rfl]
        cases hd : s.data.toList with
        | nil => exact absurd hd c1
        | cons a l => simp; omega
      by_cases c2 : (s.extract 0 1).data.toList = [27]
      · rw [if_pos c2] at h
        have c2b : ((s.extract 0 1).toList == ([27] : List UInt8)) = true := by rw [Lib.toList_data, c2]; rfl
        have A := Aside0.mk h
        clear h c2 c1
        cases b <;> cases final
        case true.false => exact absurd ⟨rfl, rfl⟩ c0
        all_goals
          clear c0
          go_wp2_with (first | (go_at_call 21; refine (P.keys_escaped.calls k s _ r1 r2 _ A.out HTr.out).mono ?_; rintro e w' ⟨rfl, hb'⟩))
          go_ret2
          exact ⟨rfl, below_step HB.out hb'⟩
      rw [if_neg c2] at h
      have c2b : ((s.extract 0 1).toList == ([27] : List UInt8)) = false := by rw [Lib.toList_data, beq_eq_false_iff_ne]; exact c2
      clear c2 c1
      replace h := Option.bind_eq_some_iff.mp h
      obtain ⟨l, A1, h⟩ := h
      have A1 := Aside0.mk A1
      by_cases c3 : l.data.toList = []
      · rw [if_pos c3] at h
        have c3b : (l.toList == ([] : List UInt8)) = true := by rw [Lib.toList_data, c3]; rfl
        have c3c : (l.toList != ([] : List UInt8)) = false := by rw [Lib.toList_data, c3]; rfl
        clear c3
        replace h := Option.bind_eq_some_iff.mp h
        obtain ⟨⟨q1, q2, q3⟩, A2, h⟩ := h
        have A2 := Aside0.mk A2
        replace h : (if q3 = 2 then (if final = true then some ((⟨#[63]⟩ : ByteArray), (1 : Int)) else some (⟨#[]⟩, 0)) else some (⟨#[63]⟩, q2)) = some (r1, r2) := h
        by_cases c4 : q3 = 2
        · rw [if_pos c4] at h
          subst c4
          cases b <;> cases final
          case true.false => exact absurd ⟨rfl, rfl⟩ c0
          all_goals
            clear c0
            simp at h
            obtain ⟨rfl, rfl⟩ := h
            go_wp2_with (first | (go_at_call 15; refine (P.keys_letter.calls k s l _ A1.out HTr.out).mono ?_; rintro e w' ⟨rfl, hb'⟩; have HB2 := Aside0.mk (below_step HB.out hb'); have HT2 := Aside0.mk (tabs_here HTr.out hb')) | (go_at_call 22; refine (P.utf_First.calls k s q1 q2 2 _ A2.out HT2.out).mono ?_; rintro e w'' ⟨rfl, hb''⟩; have HB3 := Aside0.mk (below_step HB2.out hb'')))
            go_ret2
            exact ⟨rfl, HB3.out⟩
        · rw [if_neg c4] at h
          have c4b : (q3 == 2) = false := beq_eq_false_iff_ne.2 c4
          clear c4
          cases b <;> cases final
          case true.false => exact absurd ⟨rfl, rfl⟩ c0
          all_goals
            clear c0
            simp only [Option.some.injEq, Prod.mk.injEq] at h
            obtain ⟨rfl, rfl⟩ := h
            go_wp2_with (first | (go_at_call 15; refine (P.keys_letter.calls k s l _ A1.out HTr.out).mono ?_; rintro e w' ⟨rfl, hb'⟩; have HB2 := Aside0.mk (below_step HB.out hb'); have HT2 := Aside0.mk (tabs_here HTr.out hb')) | (go_at_call 22; refine (P.utf_First.calls k s q1 q2 q3 _ A2.out HT2.out).mono ?_; rintro e w'' ⟨rfl, hb''⟩; have HB3 := Aside0.mk (below_step HB2.out hb'')))
            go_ret2
            exact ⟨rfl, HB3.out⟩
      · rw [if_neg c3] at h
        have c3b : (l.toList == ([] : List UInt8)) = false := by rw [Lib.toList_data, beq_eq_false_iff_ne]; exact c3
        have c3c : (l.toList != ([] : List UInt8)) = true := by rw [Lib.toList_data, bne_iff_ne]; exact c3
        clear c3
        simp only [Option.some.injEq, Prod.mk.injEq] at h
        obtain ⟨rfl, rfl⟩ := h
        cases b <;> cases final
        case true.false => exact absurd ⟨rfl, rfl⟩ c0
        all_goals
          clear c0
          go_wp2_with (first | (go_at_call 15; refine (P.keys_letter.calls k s l _ A1.out HTr.out).mono ?_; rintro e w' ⟨rfl, hb'⟩; have HB2 := Aside0.mk (below_step HB.out hb')))
          go_ret2
          exact ⟨rfl, HB2.out⟩
    · -- an entry has come
      intro x c kl y y' w1 cnt1 hkey hlx hv hat hrg1 hlt hg1 hs1 hen
      obtain ⟨x', ex, rfl⟩ := keyS_inv hkey
      cases ex
      obtain ⟨c', ec, ey, hwc⟩ := plainElem_string_inv Tryd.underlying9 hv
      cases ec
      obtain ⟨rfl, rfl⟩ := Prod.mk.inj ey
      have hm : (x.data.toList, c.data.toList) ∈ NL := at_NL hat
      have hB1 : Below w.heap.size w w1 := hb.grown hg1 hb.size (fun k hk => by cases hk; exact Nat.le_refl _)
      cases hp : Lib.hasPrefix s.data.toList c.data.toList with
      | true =>
        have hh := hit_eq hm hp
        unfold takeF at h
        rw [hh] at h
        simp only [Option.some.injEq, Prod.mk.injEq] at h
        obtain ⟨h1, h2⟩ := h
        rw [ba_of] at h1
        subst h1
        subst h2
        go_wp2_with (first | (go_at_call 20; refine (Tryd.strings_HasPrefix _ _ _).mono ?_; rintro e w' ⟨rfl, rfl⟩; rw [hp]))
        go_ret2
        exact ⟨by first | rfl | (simp; done), hB1⟩
      | false =>
        have hnext : ∀ p ∈ NL, (fun z => left z && !z.sameKey (Lit.string x.data.toList)) (.string p.1) = false → left (.string p.1) = false ∨ p = (x.data.toList, c.data.toList) := by
          intro p hp hl
          cases hlp : left (.string p.1) with
          | false => exact .inl rfl
          | true =>
            right
            simp only [hlp, Bool.true_and, Bool.not_eq_false'] at hl
            have e1 : p.1 = x.data.toList := by simpa [Lit.sameKey] using hl
            exact NL_keys p hp _ hm e1
        have hno' : ∀ p ∈ NL, (fun z => left z && !z.sameKey (Lit.string x.data.toList)) (.string p.1) = false → p.2.isPrefixOf s.data.toList = false := by
          intro p hp' hl
          rcases hnext p hp' hl with h1 | rfl
          · exact hno p hp' h1
          · exact hp
        cases b with
        | true =>
          go_wp2_with (first | (go_at_call 20; refine (Tryd.strings_HasPrefix _ _ _).mono ?_; rintro e w' ⟨rfl, rfl⟩; rw [hp]))
          go_roundw
          case rel => exact ⟨_, cnt1, true, rfl, hrg1, hB1, hno', fun _ => hb1 (by first | rfl | trivial), fun _ _ _ _ => rfl⟩
          case measure => rw [hrg1.left_eq, hrg.left_eq]; exact hlt
        | false =>
          cases hq : Lib.hasPrefix c.data.toList s.data.toList with
          | true =>
            go_wp2_with (first | (go_at_call 20; first | (refine (Tryd.strings_HasPrefix s c _).mono ?_; rintro e w' ⟨rfl, rfl⟩; rw [hp]) | (refine (Tryd.strings_HasPrefix c s _).mono ?_; rintro e w' ⟨rfl, rfl⟩; rw [hq])))
            go_roundw
            case rel => exact ⟨_, cnt1, true, rfl, hrg1, hB1, hno', fun _ => List.any_eq_true.2 ⟨_, hm, hq⟩, fun _ _ _ _ => rfl⟩
            case measure => rw [hrg1.left_eq, hrg.left_eq]; exact hlt
          | false =>
            go_wp2_with (first | (go_at_call 20; first | (refine (Tryd.strings_HasPrefix s c _).mono ?_; rintro e w' ⟨rfl, rfl⟩; rw [hp]) | (refine (Tryd.strings_HasPrefix c s _).mono ?_; rintro e w' ⟨rfl, rfl⟩; rw [hq])))
            go_roundw
            case rel =>
              refine ⟨_, cnt1, false, rfl, hrg1, hB1, hno', fun h => (by cases h), fun p hp' hl hs => ?_⟩
              rcases hnext p hp' hl with h1 | rfl
              · exact hb2 p hp' h1 hs
              · exact hq.symm.trans hs
            case measure => rw [hrg1.left_eq, hrg.left_eq]; exact hlt
end Go.Proofs.YtbnpcnpdeinacaaDoor
