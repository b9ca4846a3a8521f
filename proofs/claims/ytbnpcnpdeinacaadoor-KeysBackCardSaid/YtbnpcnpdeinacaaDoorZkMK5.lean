-- A copy of the text YtbnpcnpdeinacaaDoorMK5 with what this claim does not reach left out (prune.py, a program of this project).
import Derived.Test.YtbnpcnpdeinacaaDoorZkMK4
import Derived.Test.YtbnpcnpdeinacaaDoorZkPx13
namespace Go.Proofs.YtbnpcnpdeinacaaDoor
open Go.RowKit Go.Lib Go.Proofs.YtbnpcnpdeinacaaDoorW.PrintWords Go.Proofs.YtbnpcnpdeinacaaDoorW.PrintLast Go.Proofs.YtbnpcnpdeinacaaDoorW.PrintMore Go.Proofs.YtbnpcnpdeinacaaDoor.P
set_option linter.unusedVariables false
theorem NL_heads : ∀ p ∈ NL, ∃ a u, p.2 = a :: u ∧ (a < 32 ∨ a = 127) ∧ (a = 27 → ∃ b v, u = b :: v ∧ (b = 91 ∨ b = 79)) := by
  have h : ∀ p ∈ NL, (match p.2 with | [] => false | a :: u => (decide (a < 32) || a == 127) && (a != 27 || (match u with | [] => false | b :: _ => b == 91 || b == 79))) = true := by decide +kernel
  intro p hp
  have := h p hp
  cases e : p.2 with
  | nil => rw [e] at this; cases this
  | cons a u =>
    rw [e] at this
    simp only [Bool.and_eq_true, Bool.or_eq_true, decide_eq_true_eq, beq_iff_eq, bne_iff_ne] at this
    refine ⟨a, u, rfl, this.1, fun ha => ?_⟩
    rcases this.2 with h1 | h1
    · exact absurd ha h1
    · cases u with
      | nil => cases h1
      | cons b v =>
        simp only [Bool.or_eq_true, beq_iff_eq] at h1
        exact ⟨b, v, rfl, h1⟩
theorem pre_head {a b : UInt8} {u v : List UInt8} (h : (a :: u).isPrefixOf (b :: v) = true) : a = b ∧ u.isPrefixOf v = true := by
  simpa [List.isPrefixOf] using h
/-- A letter key's first byte. -/
theorem letter_head (l : List UInt8) (h : letterL l ≠ []) : ∃ a u, l = a :: u ∧ 32 ≤ a ∧ a ≠ 127 ∧ (a < 128 → letterL l = [a]) := by
  cases l with
  | nil => exact absurd rfl h
  | cons a u =>
    refine ⟨a, u, rfl, ?_⟩
    have hz : (firstL (a :: u)).2.2 = 0 := by
      apply Classical.byContradiction
      intro hn
      unfold letterL at h
      rw [if_neg hn] at h
      exact h rfl
    have hw : ¬ widthZ (firstL (a :: u)).1 < 0 := by
      intro hn
      unfold letterL at h
      rw [if_pos hz, if_pos hn] at h
      exact h rfl
    have hL : letterL (a :: u) = (a :: u).take (firstL (a :: u)).2.1.toNat := by
      unfold letterL
      rw [if_pos hz, if_neg hw]
    have hg : g (a :: u) 0 = a.toNat := rfl
    by_cases c : g (a :: u) 0 < 128
    · have hf : firstL (a :: u) = ((g (a :: u) 0 : Int), 1, 0) := by
        unfold firstL
        rw [if_neg (by simp), if_pos c]
      rw [hf] at hw hL
      simp only at hw
      have hw2 : ¬ ((g (a :: u) 0 : Int) < 32 ∨ (127 ≤ (g (a :: u) 0 : Int) ∧ (g (a :: u) 0 : Int) < 160)) := by
        intro hh
        apply hw
        unfold widthZ
        rw [if_pos (.inr hh)]
        decide
      rw [hg] at hw2 c
      refine ⟨by rw [UInt8.le_iff_toNat_le]; show 32 ≤ a.toNat; omega, fun e => ?_, fun _ => by rw [hL]; rfl⟩
      rw [e] at hw2
      exact hw2 (.inr (by decide))
    · rw [hg] at c
      refine ⟨by rw [UInt8.le_iff_toNat_le]; show 32 ≤ a.toNat; omega, fun e => ?_, fun hlt => ?_⟩
      · rw [e] at c
        exact c (by decide)
      · rw [UInt8.lt_iff_toNat_lt] at hlt
        exact absurd hlt c
theorem back_letter (name rest : List UInt8) (f : Bool) (h1 : name ≠ []) (h2 : letterL name = name) : takeL (name ++ rest) f = (name, name.length) := by
  have hne : letterL name ≠ [] := by rw [h2]; exact h1
  obtain ⟨a, u, rfl, h32, h127, _⟩ := letter_head name hne
  have hn27 : a ≠ 27 := by
    intro e
    rw [e] at h32
    exact absurd h32 (by decide)
  have hno : hitL ((a :: u) ++ rest) = none := by
    refine hit_none fun p hp => ?_
    cases hq : p.2.isPrefixOf ((a :: u) ++ rest) with
    | false => rfl
    | true =>
      obtain ⟨b, v, e, hb, _⟩ := NL_heads p hp
      rw [e] at hq
      obtain ⟨rfl, _⟩ := pre_head hq
      rcases hb with hb | hb
      · exact absurd hb (by rw [UInt8.not_lt]; exact h32)
      · exact absurd hb h127
  have hbe : beginsL ((a :: u) ++ rest) = false := by
    cases hq : beginsL ((a :: u) ++ rest) with
    | false => rfl
    | true =>
      obtain ⟨p, hp, hq⟩ := List.any_eq_true.1 hq
      obtain ⟨b, v, e, hb, _⟩ := NL_heads p hp
      rw [e] at hq
      obtain ⟨rfl, _⟩ := pre_head hq
      rcases hb with hb | hb
      · exact absurd hb (by rw [UInt8.not_lt]; exact h32)
      · exact absurd hb h127
  rw [takeL_none _ f hno, if_neg (fun hh => by rw [hbe] at hh; cases hh.1), if_neg (fun hh => hn27 (by simpa using hh)), letterL_app _ rest (letterL_first hne), h2, if_pos h1]
theorem back_meta (L rest : List UInt8) (f : Bool) (h1 : letterL L = L) (h2 : L ≠ []) (h3 : L ≠ [91]) (h4 : L ≠ [79]) : takeL ((27 :: L) ++ rest) f = ([77, 45] ++ L, 1 + L.length) := by
  have hne : letterL L ≠ [] := by rw [h1]; exact h2
  obtain ⟨a, u, rfl, h32, h127, hone⟩ := letter_head L hne
  rw [h1] at hone
  have n91 : a ≠ 91 := by
    intro e
    have := hone (by rw [e]; decide)
    rw [e] at this
    rw [e] at h3
    exact h3 this
  have n79 : a ≠ 79 := by
    intro e
    have := hone (by rw [e]; decide)
    rw [e] at this
    rw [e] at h4
    exact h4 this
  have hno : hitL ((27 :: a :: u) ++ rest) = none := by
    refine hit_none fun p hp => ?_
    cases hq : p.2.isPrefixOf ((27 :: a :: u) ++ rest) with
    | false => rfl
    | true =>
      obtain ⟨b, v, e, _, hb⟩ := NL_heads p hp
      rw [e] at hq
      obtain ⟨rfl, hq2⟩ := pre_head hq
      obtain ⟨c, v', rfl, hc⟩ := hb rfl
      obtain ⟨rfl, _⟩ := pre_head hq2
      rcases hc with hc | hc
      · exact absurd hc n91
      · exact absurd hc n79
  have hbe : beginsL ((27 :: a :: u) ++ rest) = false := by
    cases hq : beginsL ((27 :: a :: u) ++ rest) with
    | false => rfl
    | true =>
      obtain ⟨p, hp, hq⟩ := List.any_eq_true.1 hq
      obtain ⟨b, v, e, _, hb⟩ := NL_heads p hp
      rw [e] at hq
      obtain ⟨e27, hq2⟩ := pre_head hq
      obtain ⟨c, v', rfl, hc⟩ := hb e27.symm
      obtain ⟨rfl, _⟩ := pre_head hq2
      rcases hc with hc | hc
      · exact absurd hc n91
      · exact absurd hc n79
  have hpre : Lib.hasPrefix ((27 :: a :: u) ++ rest) [27, 91] = false := by
    cases hq : Lib.hasPrefix ((27 :: a :: u) ++ rest) [27, 91] with
    | false => rfl
    | true =>
      obtain ⟨_, h⟩ := pre_head hq
      obtain ⟨e, _⟩ := pre_head h
      exact absurd e.symm n91
  have hd : ((27 :: a :: u) ++ rest).drop 1 = (a :: u) ++ rest := rfl
  rw [takeL_none _ f hno, if_neg (fun hh => by rw [hbe] at hh; cases hh.1), if_pos (show ((27 :: a :: u) ++ rest).take 1 = [27] from rfl)]
  unfold escapedL
  rw [hpre, if_neg (fun hh => by cases hh.1), if_neg (fun hh => by cases hh.1), hd, letterL_app _ rest (letterL_first hne), h1, if_pos ⟨h2, h3, h4⟩]
/-- A key's bytes, taken. -/
theorem back_one (name b : List UInt8) (h : bytesL name = (b, 0)) (hE : name ≠ [69, 115, 99]) : b ≠ [] ∧ b.length ≤ name.length + 4 ∧ ∀ rest f, takeL (b ++ rest) f = (name, b.length) := by
  cases hk : keyL name with
  | some v =>
    have hb : bytesL name = (v, 0) := by unfold bytesL; rw [hk]
    rw [hb] at h
    obtain ⟨rfl, _⟩ := Prod.mk.inj h
    obtain ⟨p, hp, rfl⟩ := Option.map_eq_some_iff.1 hk
    have hm := List.mem_of_find?_eq_some hp
    have hn : p.1 = name := by simpa using List.find?_some hp
    have h4 := NL_short p hm
    refine ⟨?_, by omega, fun rest f => ?_⟩
    · intro e
      have := (NL_ok p hm).2
      rw [e] at this
      simp at this
    · rw [takeL_some _ f (hit_eq hm (s := p.2 ++ rest) (by rw [List.isPrefixOf_iff_prefix]; exact List.prefix_append _ _)), hn]
  | none =>
    rw [bytesL_none name hk, if_neg hE] at h
    by_cases c1 : name ≠ [] ∧ letterL name = name
    · rw [if_pos c1] at h
      obtain ⟨rfl, _⟩ := Prod.mk.inj h
      exact ⟨c1.1, by omega, fun rest f => back_letter name rest f c1.1 c1.2⟩
    · rw [if_neg c1] at h
      split at h
      · rename_i c2
        obtain ⟨rfl, _⟩ := Prod.mk.inj h
        obtain ⟨h0, h1, h2, h3, h4⟩ := c2
        have hd : [77, 45] ++ name.drop 2 = name := by
          match name, h0 with
          | x :: y :: z, h0 =>
            obtain ⟨rfl, hq⟩ := pre_head h0
            obtain ⟨rfl, _⟩ := pre_head hq
            rfl
        rw [h2]
        rw [h2] at h1 h3 h4
        refine ⟨by simp, by rw [List.length_cons, List.length_drop]; omega, fun rest f => ?_⟩
        rw [back_meta _ rest f h2 h1 h3 h4, hd, List.length_cons, Nat.add_comm]
      · have := (Prod.mk.inj h).2
        cases this
theorem decL_nil' (d : Nat) (f : Bool) : decL d [] f = ([], []) := by cases d <;> rfl
theorem dec_one (name b : List UInt8) (f : Bool) (h1 : b ≠ []) (h2 : name ≠ []) (h : ∀ rest f, takeL (b ++ rest) f = (name, b.length)) : decL b.length b f = ([name], []) := by
  have ht := h [] f
  rw [List.append_nil] at ht
  obtain ⟨m, hm⟩ : ∃ m, b.length = m + 1 := by
    cases b with
    | nil => exact absurd rfl h1
    | cons a u => exact ⟨u.length, rfl⟩
  rw [hm]
  show (if b = [] then _ else _) = _
  rw [if_neg h1, ht, if_neg h2, List.drop_of_length_le (Nat.le_refl _), decL_nil']
theorem esc_dec : decL 1 [27] true = ([[69, 115, 99]], []) := by decide +kernel
theorem map_back (l : List ByteArray) : (l.map fun x => x.data.toList).map ba = l := by
  rw [List.map_map]
  conv => rhs; rw [← List.map_id l]
  exact List.map_congr_left fun x _ => (ba_eq x _ rfl).symm
theorem back_end (k : Nat) (hk : 100 ≤ k) (x3 : ByteArray) (x4 x19 : List ByteArray) (h4 : x4.length ≤ 12) (hs : x3.size ≤ 1000) (hd : decL x3.data.toList.length x3.data.toList false = (x4.map (fun x => x.data.toList), [])) :
    backseatlaw03_KeysBack.l0 (k + 1) x3 x4 x19 (x19.length : Int) (x19.length : Int) = some true := by
  simp only [backseatlaw03_KeysBack.l0]
  rw [if_neg (by omega), decode_go x3 false (by omega), hd, Option.bind_some, decode_go _ true (by decide), show ((⟨#[27]⟩ : ByteArray)).data.toList = [27] from rfl, show ([27] : List UInt8).length = 1 from rfl, esc_dec, Option.bind_some, alive_go, Option.bind_some, if_pos rfl]
  rw [if_pos (by rw [Lib.toList_data]; rfl), map_back, same_refl x4 (by omega) k (by omega), Option.bind_some, if_pos rfl, if_pos (by rfl), if_pos (by decide), Lib.toList_data]
  rfl
theorem bytes_go (s : ByteArray) (h : s.size ≤ 1000000) : keys_Bytes.f s = some (ba (bytesL s.data.toList).1, (bytesL s.data.toList).2) := by
  unfold keys_Bytes.f
  rw [if_pos h]
theorem back_loop (x19 : List ByteArray) (hl : x19.length ≤ 12) : ∀ (d i k : Nat) (x3 : ByteArray) (x4 : List ByteArray), i + d = x19.length → 2 * d + 200 ≤ k → x4.length ≤ i → x3.size ≤ 24 * i →
    decL x3.data.toList.length x3.data.toList false = (x4.map (fun x => x.data.toList), []) → backseatlaw03_KeysBack.l0 k x3 x4 x19 (x19.length : Int) (i : Int) = some true := by
  intro d
  induction d with
  | zero =>
    intro i k x3 x4 hi hk h4 hs hd
    obtain ⟨k, rfl⟩ : ∃ m, k = m + 1 := ⟨k - 1, by omega⟩
    obtain rfl : i = x19.length := by omega
    exact back_end k (by omega) x3 x4 x19 (by omega) (by omega) hd
  | succ d ih =>
    intro i k x3 x4 hi hk h4 hs hd
    obtain ⟨k, rfl⟩ : ∃ m, k = m + 1 + 1 := ⟨k - 2, by omega⟩
    have hskip : backseatlaw03_KeysBack.l0 k x3 x4 x19 (x19.length : Int) (wrap64 ((i : Int) + 1)) = some true := by
      rw [show wrap64 ((i : Int) + 1) = ((i + 1 : Nat) : Int) from by unfold wrap64; omega]
      exact ih (i + 1) k x3 x4 (by omega) (by omega) (by omega) (by omega) hd
    simp only [backseatlaw03_KeysBack.l0]
    obtain ⟨x, hx⟩ : ∃ x, rdOf ByteArray.empty x19 (i : Int) = x := ⟨_, rfl⟩
    rw [hx]
    have hm : 0 ≤ mn (x.size : Int) 20 ∧ mn (x.size : Int) 20 ≤ (x.size : Int) ∧ mn (x.size : Int) 20 ≤ 20 := by unfold mn; omega
    rw [if_pos (by omega), if_pos (by omega), if_pos (by omega), if_pos hm.1, if_pos hm.2.1]
    have hns : (x.extract 0 (mn (x.size : Int) 20).toNat).size ≤ 20 := by rw [size_len, toList_take, List.length_take]; omega
    generalize x.extract 0 (mn (x.size : Int) 20).toNat = nm at hns ⊢
    rw [bytes_go nm (by omega), Option.bind_some]
    have hj1 : ∀ b0, backseatlaw03_KeysBack.j1 (k + 1) x3 x4 nm b0 x19 (x19.length : Int) (i : Int) true = some true := by
      intro b0
      simp only [backseatlaw03_KeysBack.j1]
      rw [if_pos trivial]
      exact hskip
    by_cases he : (bytesL nm.data.toList).2 = 0
    · rw [if_pos he]
      by_cases hE : nm.data.toList = [69, 115, 99]
      · rw [show (nm.toList == ([69, 115, 99] : List UInt8)) = true from by rw [Lib.toList_data, hE]; rfl]
        exact hj1 _
      · rw [show (nm.toList == ([69, 115, 99] : List UInt8)) = false from by rw [Lib.toList_data, beq_eq_false_iff_ne]; exact hE]
        obtain ⟨b, hb⟩ : ∃ b, (bytesL nm.data.toList).1 = b := ⟨_, rfl⟩
        have hbb : bytesL nm.data.toList = (b, 0) := Prod.ext hb he
        obtain ⟨o1, o2, o3⟩ := back_one nm.data.toList b hbb hE
        have hn0 : nm.data.toList ≠ [] := by
          intro e
          rw [e] at hbb
          have : bytesL [] = ([], 1) := by decide +kernel
          rw [this] at hbb
          cases (Prod.mk.inj hbb).2
        have hD := dec_one nm.data.toList b true o1 hn0 o3
        have hD2 := dec_one nm.data.toList b false o1 hn0 o3
        rw [← size_len] at o2
        rw [hb]
        simp only [backseatlaw03_KeysBack.j1]
        rw [if_neg (by decide), decode_go (ba b) true (by rw [ba_size]; omega), ba_data, hD, Option.bind_some, if_neg (by rw [Lib.toList_data, ba_data]; exact o1), if_pos (by rw [Lib.toList_data]; rfl), if_pos (by rfl), if_pos (by show (0 : Int) < 1; omega)]
        rw [if_pos (by rw [Lib.toList_data, Lib.toList_data]; rfl), if_pos (by rw [ba_size]; omega), if_pos (by omega)]
        rw [show wrap64 ((i : Int) + 1) = ((i + 1 : Nat) : Int) from by unfold wrap64; omega]
        have hsz : (x3 ++ ba b).size = x3.size + b.length := by rw [size_len, cat_data, List.length_append, ← size_len]; rfl
        refine ih (i + 1) k (x3 ++ ba b) (x4 ++ [nm]) (by omega) (by omega) (by rw [List.length_append, List.length_singleton]; omega) (by rw [hsz]; omega) ?_
        have happ := decL_app b false x3.data.toList.length x3.data.toList (Nat.le_refl _)
        rw [hd] at happ
        rw [cat_data, ba_data, happ, List.map_append]
        show (_ ++ (decL ([] ++ b).length ([] ++ b) false).1, (decL ([] ++ b).length ([] ++ b) false).2) = _
        rw [List.nil_append, hD2]
        rfl
    · rw [if_neg he]
      exact hj1 _
theorem KeysBack (l0 : List ByteArray) : ∃ k, backseatlaw03_KeysBack.f k l0 = some true := by
  refine ⟨300, ?_⟩
  have hm : 0 ≤ mn (l0.length : Int) 12 ∧ mn (l0.length : Int) 12 ≤ (l0.length : Int) ∧ mn (l0.length : Int) 12 ≤ 12 := by unfold mn; omega
  unfold backseatlaw03_KeysBack.f
  rw [if_pos hm.1, if_pos hm.2.1]
  have hl : (l0.take (mn (l0.length : Int) 12).toNat).length ≤ 12 := by rw [List.length_take]; omega
  exact back_loop _ hl (l0.take (mn (l0.length : Int) 12).toNat).length 0 300 ⟨#[]⟩ [] (by omega) (by omega) (Nat.le_refl _) (Nat.le_refl _) rfl
end Go.Proofs.YtbnpcnpdeinacaaDoor
