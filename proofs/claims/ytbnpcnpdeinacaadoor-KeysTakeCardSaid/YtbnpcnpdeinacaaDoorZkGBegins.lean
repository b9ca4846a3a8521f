-- A copy of the text YtbnpcnpdeinacaaDoorGBegins with what this claim does not reach left out (prune.py, a program of this project).
import Derived.Test.YtbnpcnpdeinacaaDoorZkGBytes
import Derived.Lib.AtoiErrMem
import Derived.Deep.DeepMust
namespace Go.Proofs.YtbnpcnpdeinacaaDoor
open Go.RowKit Go.Lib Go.Proofs.YtbnpcnpdeinacaaDoorW.PrintWords Go.Proofs.YtbnpcnpdeinacaaDoorW.PrintLast Go.Proofs.YtbnpcnpdeinacaaDoor.P
/-- From place k on all bytes but the first may stand behind a first one. -/
def contFrom (s : ByteArray) (k : Nat) : Bool := (List.range s.size).all fun j => decide (j < k) || (decide (128 ≤ bt s (j : Int)) && decide (bt s (j : Int) ≤ 191))
def padB (s : ByteArray) (n : Nat) (c : Int) : ByteArray := strOfNums (bytesOf s ++ List.replicate (n - s.size) c)
def floorZ (n : Int) : Int := rd [0, 0, 128, 2048, 65536] n
def endsB (lo hi fl : Int) : Bool := !(decide (hi < fl) || decide (lo > 1114111)) && (decide (lo < 55296) || decide (hi > 57343))
def backseatref01_begins.f (a0 : ByteArray) (a1 : Int) : Option Bool :=
  if 1 ≤ a1 ∧ a1 ≤ 4 then
    (if (a0.size : Int) > a1 then some false else if contFrom a0 1 = false then some false else
      (backseatref01_value.f 10 (padB a0 a1.toNat 128)).bind fun lo => (backseatref01_value.f 10 (padB a0 a1.toNat 191)).bind fun hi => some (endsB lo hi (floorZ a1)))
  else none
theorem contFrom_step (s : ByteArray) (k : Nat) (hk : k < s.size) : contFrom s k = ((decide (128 ≤ bt s (k : Int)) && decide (bt s (k : Int) ≤ 191)) && contFrom s (k + 1)) := by
  rw [Bool.eq_iff_iff]
  simp only [contFrom, List.all_eq_true, List.mem_range, Bool.and_eq_true, Bool.or_eq_true, decide_eq_true_eq]
  constructor
  · intro h
    refine ⟨?_, fun j hj => ?_⟩
    · rcases h k hk with h | h
      · omega
      · exact h
    · by_cases e : j < k + 1
      · exact .inl e
      · rcases h j hj with h | h
        · omega
        · exact .inr h
  · rintro ⟨h1, h2⟩ j hj
    by_cases e : j < k
    · exact .inl e
    · by_cases e2 : j = k
      · subst e2; exact .inr h1
      · rcases h2 j hj with h | h
        · omega
        · exact .inr h
theorem contFrom_end (s : ByteArray) (k : Nat) (hk : s.size ≤ k) : contFrom s k = true := by
  simp only [contFrom, List.all_eq_true, List.mem_range, Bool.or_eq_true, decide_eq_true_eq]
  intro j hj
  exact .inl (by omega)
theorem bt_get (s : ByteArray) (k : Nat) (hk : k < s.size) : ((s[k]'hk).toNat : Int) = bt s (k : Int) := by
  have := bt_at s (k : Int) (by simpa using hk)
  simpa using this
theorem OwnM.slice_of {w : World} {base : Nat} {e : TypeId} {v : Value} {xs : List Int} (h : OwnM w base e v xs) (n : Nat) (hn : xs.length = n) : ∃ g cap, v = .slice (some ⟨g, 0, none⟩) n cap := by
  subst hn
  exact h.slice
theorem rep_snoc (l : List Int) (c : Int) {m n : Nat} (h : n ≤ m) : l ++ List.replicate (m - n) c ++ [c] = l ++ List.replicate (m + 1 - n) c := by
  rw [List.append_assoc, show m + 1 - n = (m - n) + 1 by omega, List.replicate_succ']
def lenV : Value → Nat | .slice _ n _ => n | _ => 0
theorem infoU8 : (Tryd.prog.info? 5).map (fun i => (i.zero, i.size, i.bytes)) = some (some (.int .u8 0), 1, 1) := by kernel_rfl
set_option maxHeartbeats 8000000 in
set_option maxRecDepth 100000 in
theorem backseatref01_begins.calls (a0 : ByteArray) (a1 : Int) (r : Bool) (w : World) (h : backseatref01_begins.f a0 a1 = some r) :
    Calls Tryd.prog 46 #[.string a0, .int .i64 a1] w fun e w' => e = .returned (.bool r) ∧ Below w.heap.size w w' := by
  unfold backseatref01_begins.f at h
  by_cases hr : 1 ≤ a1 ∧ a1 ≤ 4
  · rw [if_pos hr] at h
    obtain ⟨h1, h4⟩ := hr
    by_cases hgt : (a0.size : Int) > a1
    · rw [if_pos hgt] at h
      obtain rfl := Option.some.inj h
      clear h
      have d : decide ((a0.size : Int) > a1) = true := decide_eq_true hgt
      go_enter Tryd.func46, Tryd.ntmps46
      go_wp2
      go_ret
      exact ⟨rfl, Below.refl _ _⟩
    · rw [if_neg hgt] at h
      have d : decide ((a0.size : Int) > a1) = false := decide_eq_false hgt
      have hsz : a0.size ≤ 4 := by omega
      have kb := fun W => print_bytes (P := Tryd.prog) 9 66 5 Tryd.underlying9 Tryd.underlying66 Tryd.underlying5 a0 W
      have H := Lib.hid h
      clear h
      have hgtz : (a0.size : Int) ≤ a1 := by omega
      clear hgt
      obtain ⟨i0, hi0, hz0, hz1, hz2⟩ := info_parts infoU8
      have HI := Lib.hid (And.intro hi0 (And.intro hz0 (And.intro hz1 hz2)))
      clear hi0 hz0 hz1 hz2
      go_enter Tryd.func46, Tryd.ntmps46
      go_wp2
      go_loop [5] (fun i => ∃ k : Nat, 1 ≤ k ∧ i = .int .i64 k ∧ Hid (contFrom a0 1 = contFrom a0 k)) (fun i => a0.size - (RowKit.intOf i).toNat)
      case atStart => exact ⟨1, Nat.le_refl _, rfl, Lib.hid rfl⟩
      case round =>
        obtain ⟨k, hk1, rfl, HC⟩ := hrel
        by_cases hlt : k < a0.size
        · have hlz : (k : Int) < (a0.size : Int) := by omega
          have hst := contFrom_step a0 k hlt
          have hb := bt_get a0 k hlt
          generalize hq : bt a0 (k : Int) = q at hst hb
          clear hq
          by_cases c1 : q < 128
          · have d1 : decide (q < 128) = true := decide_eq_true c1
            have hf : contFrom a0 1 = false := by rw [HC.out, hst]; simp; omega
            have HH := H.out
            rw [if_pos hf] at HH
            obtain rfl := Option.some.inj HH
            clear HH hf hst c1 H
            go_wp2
            go_ret
            exact ⟨rfl, Below.refl _ _⟩
          · have d1 : decide (q < 128) = false := decide_eq_false c1
            by_cases c2 : q > 191
            · have d2 : decide (q > 191) = true := decide_eq_true c2
              have hf : contFrom a0 1 = false := by rw [HC.out, hst]; simp; omega
              have HH := H.out
              rw [if_pos hf] at HH
              obtain rfl := Option.some.inj HH
              clear HH hf hst c1 c2 H
              go_wp2
              go_ret
              exact ⟨rfl, Below.refl _ _⟩
            · have d2 : decide (q > 191) = false := decide_eq_false c2
              have HC2 : Hid (contFrom a0 1 = contFrom a0 (k + 1)) := Lib.hid (by rw [HC.out, hst]; simp; omega)
              clear hst c1 c2 HC
              go_wp2
              go_round
              case rel => exact ⟨k + 1, by omega, by go_num, HC2⟩
              case measure => simp [RowKit.intOf]; omega
        · have hge : ¬ ((k : Int) < (a0.size : Int)) := by omega
          have hf : contFrom a0 1 = true := by rw [HC.out]; exact contFrom_end a0 k (by omega)
          have HH := H.out
          rw [if_neg (by rw [hf]; simp)] at HH
          replace HH := Option.bind_eq_some_iff.mp HH
          obtain ⟨lo, hlo, HH⟩ := HH
          replace HH := Option.bind_eq_some_iff.mp HH
          obtain ⟨hi, hhi, HH⟩ := HH
          obtain rfl := Option.some.inj HH
          have CL := Lib.hid (fun W => backseatref01_value.calls 10 (padB a0 a1.toNat 128) lo W hlo)
          have CH := Lib.hid (fun W => backseatref01_value.calls 10 (padB a0 a1.toNat 191) hi W hhi)
          clear hlo hhi HH
          clear hf HC H
          go_wp2
          go_loopw [6, 7] (fun v6 v7 wr => ∃ (m g6 c6 g7 c7 : Nat), a0.size ≤ m ∧ (m : Int) ≤ a1 ∧ v6 = .slice (some ⟨g6, 0, none⟩) m c6 ∧ v7 = .slice (some ⟨g7, 0, none⟩) m c7 ∧ Hid (OwnM wr w.heap.size 5 (.slice (some ⟨g6, 0, none⟩) m c6) (bytesOf a0 ++ List.replicate (m - a0.size) 128)) ∧ Hid (OwnM wr w.heap.size 5 (.slice (some ⟨g7, 0, none⟩) m c7) (bytesOf a0 ++ List.replicate (m - a0.size) 191)) ∧ g6 ≠ g7 ∧ Below w.heap.size w wr) (fun v6 _ _ => a1.toNat - lenV v6)
          case atStart =>
            have hs : a0.size ≤ maxLen := by unfold maxLen; omega
            have hb1 := bytes_below (Below.refl w.heap.size w) (Nat.le_refl _) 5 a0
            have hb2 := bytes_below hb1 hb1.size 5 a0
            have ho6 := OwnM.of_bytes w w.heap.size 5 a0 (Nat.le_refl _) hs
            have ho7 := OwnM.of_bytes (Lib.bytesWorld w 5 a0) w.heap.size 5 a0 hb1.size hs
            refine ⟨a0.size, w.heap.size, _, (Lib.bytesWorld w 5 a0).heap.size, _, Nat.le_refl _, hgtz, rfl, rfl, Lib.hid ?_, Lib.hid ?_, ?_, hb2⟩
            · rw [Nat.sub_self, List.replicate_zero, List.append_nil]; exact ho6.below (Lib.bytesWorld_below _ 5 a0)
            · rw [Nat.sub_self, List.replicate_zero, List.append_nil]; exact ho7
            · rw [Lib.bytesWorld_size]; omega
          case round =>
            obtain ⟨m, g6, c6, g7, c7, hm1, hm2, rfl, rfl, H6, H7, hne, hbw⟩ := hrel
            by_cases hlt2 : (m : Int) < a1
            · have X6 := H6.out
              have X7 := H7.out
              have l6 := (X6.lt g6 rfl).2
              have l7 := (X7.lt g7 rfl).2
              have tok1 : True := trivial
              have tok2 : True := trivial
              have hL6 : (bytesOf a0 ++ List.replicate (m - a0.size) (128 : Int)).length + 1 ≤ 140737488355328 := by simp [bytesOf_length]; omega
              have hL7 : (bytesOf a0 ++ List.replicate (m - a0.size) (191 : Int)).length + 1 ≤ 140737488355328 := by simp [bytesOf_length]; omega
              have hbs := hbw.size
              have G6 := Lib.hid (fun o => X6.alloc (w := wr) o)
              have HL6 := Lib.hid hL6
              have HL7 := Lib.hid hL7
              clear X6 hL6 hL7 hge hlt CL CH
              have X7' := Lib.hid X7
              clear X7
              go_wp2_with (first
                | (at_builtin; have _t := tok1; (refine wpList_appendM _ rfl _ _ 66 rfl w.heap.size 5 i0 Tryd.underlying66 HI.out.1 HI.out.2.1 HI.out.2.2.1 HI.out.2.2.2 (.slice (some ⟨g6, 0, none⟩) m c6) _ rfl (G6.out _) ⟨wr.heap.size, 0, none⟩ 1 128 rfl (by go_simp) HL6.out (by simp; omega) ?_); intro v1 w1 hv1 hg1 hn1; rw [rep_snoc _ _ hm1] at hv1; obtain ⟨p1, q1, rfl⟩ := hv1.slice_of (m + 1) (by simp [bytesOf_length]; omega); have V1 := Lib.hid hv1; have N1 := Lib.hid hn1; have E1 := Lib.hid hg1; have hs1 := hg1.size; clear hv1 hn1 hg1 tok1)
                | (at_builtin; have _t := tok2; go_must (refine wpList_appendM _ rfl _ _ 66 rfl w.heap.size 5 i0 Tryd.underlying66 HI.out.1 HI.out.2.1 HI.out.2.2.1 HI.out.2.2.2 (.slice (some ⟨g7, 0, none⟩) m c7) _ rfl (((X7'.out.alloc _).kept E1.out (by simp [Value.ownBlock]; exact fun e => hne e.symm)).alloc _) ⟨w1.heap.size, 0, none⟩ 1 191 rfl (by go_simp) HL7.out (by have h0 := hbw.size; have h9 := E1.out.size; simp at h9 ⊢; omega) ?_); intro v2 w2 hv2 hg2 hn2; rw [rep_snoc _ _ hm1] at hv2; obtain ⟨p2, q2, rfl⟩ := hv2.slice_of (m + 1) (by simp [bytesOf_length]; omega); have V2 := Lib.hid hv2; have N2 := Lib.hid hn2; have E2 := Lib.hid hg2; clear hv2 hn2 hg2 tok2))
              have hz9 := E1.out.size
              have hz8 := hbw.size
              have hne2 : ∀ b, (Value.slice (some ⟨p1, 0, none⟩) (m + 1) q1).ownBlock = some b → b ≠ g7 := by
                intro b hb
                rcases N1.out with h | ⟨c, h, hle⟩
                · rw [h] at hb; simp [Value.ownBlock] at hb; omega
                · rw [h] at hb; injection hb with hb; simp at hle; omega
              have hp1 := hne2 p1 rfl
              have hp2 : p1 ≠ p2 := by
                have hlt1 := (V1.out.lt p1 rfl).2
                rcases N2.out with h | ⟨c, h, hle⟩
                · simp [Value.ownBlock] at h; omega
                · simp [Value.ownBlock] at h; simp at hle; omega
              have R6 := Lib.hid ((V1.out.alloc _).kept E2.out (by simp [Value.ownBlock]; exact hp1))
              have hbB : Below w.heap.size w w2 := ((hbw.alloc hz8 _).grown E1.out (by simp; omega) (fun k hk => by simp [Value.ownBlock] at hk; have := (X7'.out.lt g7 rfl).1; have := (G6.out (.cells #[] 0)).lt g6 rfl; omega)).trans ((Below.alloc (B := w.heap.size) (Below.refl _ w1) (by simp at hz9; omega) _).grown E2.out (by simp at hz9 ⊢; omega) (fun k hk => by simp [Value.ownBlock] at hk; have := (X7'.out.lt g7 rfl).1; omega))
              go_roundw
              case rel => exact ⟨m + 1, p1, q1, p2, q2, by omega, by omega, rfl, rfl, R6, V2, hp2, hbB⟩
              case measure => simp [lenV]; omega
            · obtain rfl : a1 = (m : Int) := by omega
              have hm : m = 1 ∨ m = 2 ∨ m = 3 ∨ m = 4 := by omega
              have K6 : (convert 66 9 (.slice (some ⟨g6, 0, none⟩) m c6)).run Tryd.prog wr = .ok (.string (padB a0 (m : Int).toNat 128)) wr := OwnM.string (P := Tryd.prog) Tryd.underlying66 Tryd.underlying5 Tryd.underlying9 H6.out
              have K7 := Lib.hid (fun w3 (hb3 : Below wr.heap.size wr w3) => (show (convert 66 9 (.slice (some ⟨g7, 0, none⟩) m c7)).run Tryd.prog w3 = .ok (.string (padB a0 (m : Int).toNat 191)) w3 from OwnM.string (P := Tryd.prog) Tryd.underlying66 Tryd.underlying5 Tryd.underlying9 (H7.out.below hb3)))
              generalize padB a0 (m : Int).toNat 128 = s6 at K6 CL
              generalize padB a0 (m : Int).toNat 191 = s7 at K7 CH
              clear H6 H7 hlt2 hge hlt kb HI
              have tok1 : True := trivial
              have tok2 : True := trivial
              rcases hm with rfl | rfl | rfl | rfl
              · by_cases t1 : hi < 0
                · have d1 : decide (hi < 0) = true := decide_eq_true t1
                  have HE : Hid (∀ z : Int, z = 1 → endsB lo hi (floorZ z) = false) := Lib.hid (fun z hz => by subst hz; rw [show floorZ 1 = 0 by decide]; simp [endsB, t1])
                  clear t1
                  go_wp2_with (first | (go_at_call 47; have _t := tok1; refine (CL.out _).mono ?_; rintro e w3 ⟨rfl, hb3⟩; have k7 := K7.out w3 hb3; have HB3 := Lib.hid hb3; clear tok1 hb3) | (go_at_call 47; have _t := tok2; refine (CH.out _).mono ?_; rintro e w4 ⟨rfl, hb4⟩; clear tok2))
                  go_ret
                  exact ⟨by rw [HE.out] <;> first | rfl | simp, ((hbw.trans (HB3.out.mono hbw.size)).trans (hb4.mono (Nat.le_trans hbw.size HB3.out.size))).alloc (Nat.le_trans (Nat.le_trans hbw.size HB3.out.size) hb4.size) _⟩
                · have d1 : decide (hi < 0) = false := decide_eq_false t1
                  by_cases t2 : lo > 1114111
                  · have d2 : decide (lo > 1114111) = true := decide_eq_true t2
                    have HE : Hid (∀ z : Int, z = 1 → endsB lo hi (floorZ z) = false) := Lib.hid (fun z hz => by subst hz; rw [show floorZ 1 = 0 by decide]; simp [endsB, t2])
                    clear t1 t2
                    go_wp2_with (first | (go_at_call 47; have _t := tok1; refine (CL.out _).mono ?_; rintro e w3 ⟨rfl, hb3⟩; have k7 := K7.out w3 hb3; have HB3 := Lib.hid hb3; clear tok1 hb3) | (go_at_call 47; have _t := tok2; refine (CH.out _).mono ?_; rintro e w4 ⟨rfl, hb4⟩; clear tok2))
                    go_ret
                    exact ⟨by rw [HE.out] <;> first | rfl | simp, ((hbw.trans (HB3.out.mono hbw.size)).trans (hb4.mono (Nat.le_trans hbw.size HB3.out.size))).alloc (Nat.le_trans (Nat.le_trans hbw.size HB3.out.size) hb4.size) _⟩
                  · have d2 : decide (lo > 1114111) = false := decide_eq_false t2
                    by_cases t3 : lo < 55296
                    · have d3 : decide (lo < 55296) = true := decide_eq_true t3
                      have HE : Hid (∀ z : Int, z = 1 → endsB lo hi (floorZ z) = true) := Lib.hid (fun z hz => by subst hz; rw [show floorZ 1 = 0 by decide]; simp [endsB, d1, d2, d3])
                      clear t1 t2 t3
                      go_wp2_with (first | (go_at_call 47; have _t := tok1; refine (CL.out _).mono ?_; rintro e w3 ⟨rfl, hb3⟩; have k7 := K7.out w3 hb3; have HB3 := Lib.hid hb3; clear tok1 hb3) | (go_at_call 47; have _t := tok2; refine (CH.out _).mono ?_; rintro e w4 ⟨rfl, hb4⟩; clear tok2))
                      go_ret
                      exact ⟨by rw [HE.out] <;> first | rfl | simp, ((hbw.trans (HB3.out.mono hbw.size)).trans (hb4.mono (Nat.le_trans hbw.size HB3.out.size))).alloc (Nat.le_trans (Nat.le_trans hbw.size HB3.out.size) hb4.size) _⟩
                    · have d3 : decide (lo < 55296) = false := decide_eq_false t3
                      have HE : Hid (∀ z : Int, z = 1 → endsB lo hi (floorZ z) = decide (hi > 57343)) := Lib.hid (fun z hz => by subst hz; rw [show floorZ 1 = 0 by decide]; simp [endsB, d1, d2, d3])
                      clear t1 t2 t3
                      go_wp2_with (first | (go_at_call 47; have _t := tok1; refine (CL.out _).mono ?_; rintro e w3 ⟨rfl, hb3⟩; have k7 := K7.out w3 hb3; have HB3 := Lib.hid hb3; clear tok1 hb3) | (go_at_call 47; have _t := tok2; refine (CH.out _).mono ?_; rintro e w4 ⟨rfl, hb4⟩; clear tok2))
                      go_ret
                      exact ⟨by rw [HE.out] <;> first | rfl | simp, ((hbw.trans (HB3.out.mono hbw.size)).trans (hb4.mono (Nat.le_trans hbw.size HB3.out.size))).alloc (Nat.le_trans (Nat.le_trans hbw.size HB3.out.size) hb4.size) _⟩
              · by_cases t1 : hi < 128
                · have d1 : decide (hi < 128) = true := decide_eq_true t1
                  have HE : Hid (∀ z : Int, z = 2 → endsB lo hi (floorZ z) = false) := Lib.hid (fun z hz => by subst hz; rw [show floorZ 2 = 128 by decide]; simp [endsB, t1])
                  clear t1
                  go_wp2_with (first | (go_at_call 47; have _t := tok1; refine (CL.out _).mono ?_; rintro e w3 ⟨rfl, hb3⟩; have k7 := K7.out w3 hb3; have HB3 := Lib.hid hb3; clear tok1 hb3) | (go_at_call 47; have _t := tok2; refine (CH.out _).mono ?_; rintro e w4 ⟨rfl, hb4⟩; clear tok2))
                  go_ret
                  exact ⟨by rw [HE.out] <;> first | rfl | simp, ((hbw.trans (HB3.out.mono hbw.size)).trans (hb4.mono (Nat.le_trans hbw.size HB3.out.size))).alloc (Nat.le_trans (Nat.le_trans hbw.size HB3.out.size) hb4.size) _⟩
                · have d1 : decide (hi < 128) = false := decide_eq_false t1
                  by_cases t2 : lo > 1114111
                  · have d2 : decide (lo > 1114111) = true := decide_eq_true t2
                    have HE : Hid (∀ z : Int, z = 2 → endsB lo hi (floorZ z) = false) := Lib.hid (fun z hz => by subst hz; rw [show floorZ 2 = 128 by decide]; simp [endsB, t2])
                    clear t1 t2
                    go_wp2_with (first | (go_at_call 47; have _t := tok1; refine (CL.out _).mono ?_; rintro e w3 ⟨rfl, hb3⟩; have k7 := K7.out w3 hb3; have HB3 := Lib.hid hb3; clear tok1 hb3) | (go_at_call 47; have _t := tok2; refine (CH.out _).mono ?_; rintro e w4 ⟨rfl, hb4⟩; clear tok2))
                    go_ret
                    exact ⟨by rw [HE.out] <;> first | rfl | simp, ((hbw.trans (HB3.out.mono hbw.size)).trans (hb4.mono (Nat.le_trans hbw.size HB3.out.size))).alloc (Nat.le_trans (Nat.le_trans hbw.size HB3.out.size) hb4.size) _⟩
                  · have d2 : decide (lo > 1114111) = false := decide_eq_false t2
                    by_cases t3 : lo < 55296
                    · have d3 : decide (lo < 55296) = true := decide_eq_true t3
                      have HE : Hid (∀ z : Int, z = 2 → endsB lo hi (floorZ z) = true) := Lib.hid (fun z hz => by subst hz; rw [show floorZ 2 = 128 by decide]; simp [endsB, d1, d2, d3])
                      clear t1 t2 t3
                      go_wp2_with (first | (go_at_call 47; have _t := tok1; refine (CL.out _).mono ?_; rintro e w3 ⟨rfl, hb3⟩; have k7 := K7.out w3 hb3; have HB3 := Lib.hid hb3; clear tok1 hb3) | (go_at_call 47; have _t := tok2; refine (CH.out _).mono ?_; rintro e w4 ⟨rfl, hb4⟩; clear tok2))
                      go_ret
                      exact ⟨by rw [HE.out] <;> first | rfl | simp, ((hbw.trans (HB3.out.mono hbw.size)).trans (hb4.mono (Nat.le_trans hbw.size HB3.out.size))).alloc (Nat.le_trans (Nat.le_trans hbw.size HB3.out.size) hb4.size) _⟩
                    · have d3 : decide (lo < 55296) = false := decide_eq_false t3
                      have HE : Hid (∀ z : Int, z = 2 → endsB lo hi (floorZ z) = decide (hi > 57343)) := Lib.hid (fun z hz => by subst hz; rw [show floorZ 2 = 128 by decide]; simp [endsB, d1, d2, d3])
                      clear t1 t2 t3
                      go_wp2_with (first | (go_at_call 47; have _t := tok1; refine (CL.out _).mono ?_; rintro e w3 ⟨rfl, hb3⟩; have k7 := K7.out w3 hb3; have HB3 := Lib.hid hb3; clear tok1 hb3) | (go_at_call 47; have _t := tok2; refine (CH.out _).mono ?_; rintro e w4 ⟨rfl, hb4⟩; clear tok2))
                      go_ret
                      exact ⟨by rw [HE.out] <;> first | rfl | simp, ((hbw.trans (HB3.out.mono hbw.size)).trans (hb4.mono (Nat.le_trans hbw.size HB3.out.size))).alloc (Nat.le_trans (Nat.le_trans hbw.size HB3.out.size) hb4.size) _⟩
              · by_cases t1 : hi < 2048
                · have d1 : decide (hi < 2048) = true := decide_eq_true t1
                  have HE : Hid (∀ z : Int, z = 3 → endsB lo hi (floorZ z) = false) := Lib.hid (fun z hz => by subst hz; rw [show floorZ 3 = 2048 by decide]; simp [endsB, t1])
                  clear t1
                  go_wp2_with (first | (go_at_call 47; have _t := tok1; refine (CL.out _).mono ?_; rintro e w3 ⟨rfl, hb3⟩; have k7 := K7.out w3 hb3; have HB3 := Lib.hid hb3; clear tok1 hb3) | (go_at_call 47; have _t := tok2; refine (CH.out _).mono ?_; rintro e w4 ⟨rfl, hb4⟩; clear tok2))
                  go_ret
                  exact ⟨by rw [HE.out] <;> first | rfl | simp, ((hbw.trans (HB3.out.mono hbw.size)).trans (hb4.mono (Nat.le_trans hbw.size HB3.out.size))).alloc (Nat.le_trans (Nat.le_trans hbw.size HB3.out.size) hb4.size) _⟩
                · have d1 : decide (hi < 2048) = false := decide_eq_false t1
                  by_cases t2 : lo > 1114111
                  · have d2 : decide (lo > 1114111) = true := decide_eq_true t2
                    have HE : Hid (∀ z : Int, z = 3 → endsB lo hi (floorZ z) = false) := Lib.hid (fun z hz => by subst hz; rw [show floorZ 3 = 2048 by decide]; simp [endsB, t2])
                    clear t1 t2
                    go_wp2_with (first | (go_at_call 47; have _t := tok1; refine (CL.out _).mono ?_; rintro e w3 ⟨rfl, hb3⟩; have k7 := K7.out w3 hb3; have HB3 := Lib.hid hb3; clear tok1 hb3) | (go_at_call 47; have _t := tok2; refine (CH.out _).mono ?_; rintro e w4 ⟨rfl, hb4⟩; clear tok2))
                    go_ret
                    exact ⟨by rw [HE.out] <;> first | rfl | simp, ((hbw.trans (HB3.out.mono hbw.size)).trans (hb4.mono (Nat.le_trans hbw.size HB3.out.size))).alloc (Nat.le_trans (Nat.le_trans hbw.size HB3.out.size) hb4.size) _⟩
                  · have d2 : decide (lo > 1114111) = false := decide_eq_false t2
                    by_cases t3 : lo < 55296
                    · have d3 : decide (lo < 55296) = true := decide_eq_true t3
                      have HE : Hid (∀ z : Int, z = 3 → endsB lo hi (floorZ z) = true) := Lib.hid (fun z hz => by subst hz; rw [show floorZ 3 = 2048 by decide]; simp [endsB, d1, d2, d3])
                      clear t1 t2 t3
                      go_wp2_with (first | (go_at_call 47; have _t := tok1; refine (CL.out _).mono ?_; rintro e w3 ⟨rfl, hb3⟩; have k7 := K7.out w3 hb3; have HB3 := Lib.hid hb3; clear tok1 hb3) | (go_at_call 47; have _t := tok2; refine (CH.out _).mono ?_; rintro e w4 ⟨rfl, hb4⟩; clear tok2))
                      go_ret
                      exact ⟨by rw [HE.out] <;> first | rfl | simp, ((hbw.trans (HB3.out.mono hbw.size)).trans (hb4.mono (Nat.le_trans hbw.size HB3.out.size))).alloc (Nat.le_trans (Nat.le_trans hbw.size HB3.out.size) hb4.size) _⟩
                    · have d3 : decide (lo < 55296) = false := decide_eq_false t3
                      have HE : Hid (∀ z : Int, z = 3 → endsB lo hi (floorZ z) = decide (hi > 57343)) := Lib.hid (fun z hz => by subst hz; rw [show floorZ 3 = 2048 by decide]; simp [endsB, d1, d2, d3])
                      clear t1 t2 t3
                      go_wp2_with (first | (go_at_call 47; have _t := tok1; refine (CL.out _).mono ?_; rintro e w3 ⟨rfl, hb3⟩; have k7 := K7.out w3 hb3; have HB3 := Lib.hid hb3; clear tok1 hb3) | (go_at_call 47; have _t := tok2; refine (CH.out _).mono ?_; rintro e w4 ⟨rfl, hb4⟩; clear tok2))
                      go_ret
                      exact ⟨by rw [HE.out] <;> first | rfl | simp, ((hbw.trans (HB3.out.mono hbw.size)).trans (hb4.mono (Nat.le_trans hbw.size HB3.out.size))).alloc (Nat.le_trans (Nat.le_trans hbw.size HB3.out.size) hb4.size) _⟩
              · by_cases t1 : hi < 65536
                · have d1 : decide (hi < 65536) = true := decide_eq_true t1
                  have HE : Hid (∀ z : Int, z = 4 → endsB lo hi (floorZ z) = false) := Lib.hid (fun z hz => by subst hz; rw [show floorZ 4 = 65536 by decide]; simp [endsB, t1])
                  clear t1
                  go_wp2_with (first | (go_at_call 47; have _t := tok1; refine (CL.out _).mono ?_; rintro e w3 ⟨rfl, hb3⟩; have k7 := K7.out w3 hb3; have HB3 := Lib.hid hb3; clear tok1 hb3) | (go_at_call 47; have _t := tok2; refine (CH.out _).mono ?_; rintro e w4 ⟨rfl, hb4⟩; clear tok2))
                  go_ret
                  exact ⟨by rw [HE.out] <;> first | rfl | simp, ((hbw.trans (HB3.out.mono hbw.size)).trans (hb4.mono (Nat.le_trans hbw.size HB3.out.size))).alloc (Nat.le_trans (Nat.le_trans hbw.size HB3.out.size) hb4.size) _⟩
                · have d1 : decide (hi < 65536) = false := decide_eq_false t1
                  by_cases t2 : lo > 1114111
                  · have d2 : decide (lo > 1114111) = true := decide_eq_true t2
                    have HE : Hid (∀ z : Int, z = 4 → endsB lo hi (floorZ z) = false) := Lib.hid (fun z hz => by subst hz; rw [show floorZ 4 = 65536 by decide]; simp [endsB, t2])
                    clear t1 t2
                    go_wp2_with (first | (go_at_call 47; have _t := tok1; refine (CL.out _).mono ?_; rintro e w3 ⟨rfl, hb3⟩; have k7 := K7.out w3 hb3; have HB3 := Lib.hid hb3; clear tok1 hb3) | (go_at_call 47; have _t := tok2; refine (CH.out _).mono ?_; rintro e w4 ⟨rfl, hb4⟩; clear tok2))
                    go_ret
                    exact ⟨by rw [HE.out] <;> first | rfl | simp, ((hbw.trans (HB3.out.mono hbw.size)).trans (hb4.mono (Nat.le_trans hbw.size HB3.out.size))).alloc (Nat.le_trans (Nat.le_trans hbw.size HB3.out.size) hb4.size) _⟩
                  · have d2 : decide (lo > 1114111) = false := decide_eq_false t2
                    by_cases t3 : lo < 55296
                    · have d3 : decide (lo < 55296) = true := decide_eq_true t3
                      have HE : Hid (∀ z : Int, z = 4 → endsB lo hi (floorZ z) = true) := Lib.hid (fun z hz => by subst hz; rw [show floorZ 4 = 65536 by decide]; simp [endsB, d1, d2, d3])
                      clear t1 t2 t3
                      go_wp2_with (first | (go_at_call 47; have _t := tok1; refine (CL.out _).mono ?_; rintro e w3 ⟨rfl, hb3⟩; have k7 := K7.out w3 hb3; have HB3 := Lib.hid hb3; clear tok1 hb3) | (go_at_call 47; have _t := tok2; refine (CH.out _).mono ?_; rintro e w4 ⟨rfl, hb4⟩; clear tok2))
                      go_ret
                      exact ⟨by rw [HE.out] <;> first | rfl | simp, ((hbw.trans (HB3.out.mono hbw.size)).trans (hb4.mono (Nat.le_trans hbw.size HB3.out.size))).alloc (Nat.le_trans (Nat.le_trans hbw.size HB3.out.size) hb4.size) _⟩
                    · have d3 : decide (lo < 55296) = false := decide_eq_false t3
                      have HE : Hid (∀ z : Int, z = 4 → endsB lo hi (floorZ z) = decide (hi > 57343)) := Lib.hid (fun z hz => by subst hz; rw [show floorZ 4 = 65536 by decide]; simp [endsB, d1, d2, d3])
                      clear t1 t2 t3
                      go_wp2_with (first | (go_at_call 47; have _t := tok1; refine (CL.out _).mono ?_; rintro e w3 ⟨rfl, hb3⟩; have k7 := K7.out w3 hb3; have HB3 := Lib.hid hb3; clear tok1 hb3) | (go_at_call 47; have _t := tok2; refine (CH.out _).mono ?_; rintro e w4 ⟨rfl, hb4⟩; clear tok2))
                      go_ret
                      exact ⟨by rw [HE.out] <;> first | rfl | simp, ((hbw.trans (HB3.out.mono hbw.size)).trans (hb4.mono (Nat.le_trans hbw.size HB3.out.size))).alloc (Nat.le_trans (Nat.le_trans hbw.size HB3.out.size) hb4.size) _⟩
  · rw [if_neg hr] at h; cases h
end Go.Proofs.YtbnpcnpdeinacaaDoor
