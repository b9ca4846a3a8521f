-- A copy of the text YtplngfammfdemaaGEachC with what this claim does not reach left out (prune.py, a program of this project).
import Derived.Test.YtplngfammfdemaaZpGEach
namespace Go.Proofs.Ytplngfammfdemaa
open Go.RowKit Go.Shelf Go.Proofs.YtplngfammfdemaaW.PrintWords Go.Proofs.YtplngfammfdemaaW.PrintLast Go.Proofs.YtplngfammfdemaaW.PrintMore
set_option linter.unusedVariables false
set_option linter.unusedSimpArgs false
/-- A row of rows that is read. -/
def ShS (w : World) (v : Value) (xs : List (List Int)) : Prop := ∃ A c, v = .slice A xs.length c ∧ xs.length ≤ c ∧ Kd.C kRows w A xs.length xs
theorem ShS.value {w : World} {v : Value} {xs : List (List Int)} (h : ShS w v xs) : ∃ A c, v = .slice A xs.length c := by
  obtain ⟨A, c, h, _⟩ := h
  exact ⟨A, c, h⟩
theorem ShS.reads {w : World} {A : Option Addr} {n c : Nat} {xs : List (List Int)} (h : ShS w (.slice A n c) xs) : n = xs.length ∧ xs.length ≤ c ∧ Kd.C kRows w A xs.length xs := by
  obtain ⟨A', c', h, h1, h2⟩ := h
  cases h
  exact ⟨rfl, h1, h2⟩
theorem ShS.below {w w1 : World} {v : Value} {xs : List (List Int)} (h : ShS w v xs) (hb : Below w.heap.size w w1) : ShS w1 v xs := by
  obtain ⟨A, c, h, h1, h2⟩ := h
  exact ⟨A, c, h, h1, Kd.C_below h2 hb⟩
/-- Chunk's iterator, and what it hands over. -/
def ChS (w : World) (v : Value) (r : List (List Int)) : Prop := ∃ Bs Bn, v = .func (.func 122) #[] #[.pointer (some ⟨Bs, 0, none⟩), .pointer (some ⟨Bn, 0, none⟩)] ∧
  ∃ (ad : Addr) (c m K : Nat) (l : List Int), 1 ≤ m ∧ m < 1000 ∧ l.length < 1000000000000 ∧ l.length ≤ c ∧ w.cell? ⟨Bs, 0, none⟩ = some (.slice (some ad) l.length c) ∧ w.cell? ⟨Bn, 0, none⟩ = some (.int .i64 m) ∧ Kd.C (Kd.int .i64) w (some ad) l.length l ∧ l.length ≤ K * m ∧ (∀ k, k < K → k * m < l.length) ∧ K ≤ 1000 ∧ r = chunksN m K l
theorem ChS.value {w : World} {v : Value} {r : List (List Int)} (h : ChS w v r) : ∃ Bs Bn, v = .func (.func 122) #[] #[.pointer (some ⟨Bs, 0, none⟩), .pointer (some ⟨Bn, 0, none⟩)] := by
  obtain ⟨Bs, Bn, h, _⟩ := h
  exact ⟨Bs, Bn, h⟩
theorem ChS.below {w w1 : World} {v : Value} {r : List (List Int)} (h : ChS w v r) (hb : Below w.heap.size w w1) : ChS w1 v r := by
  obtain ⟨Bs, Bn, h, ad, c, m, K, l, h1, h2, h3, h4, h5, h6, h7, h8⟩ := h
  exact ⟨Bs, Bn, h, ad, c, m, K, l, h1, h2, h3, h4, pw_cell_below hb h5, pw_cell_below hb h6, Kd.C_below h7 hb, h8⟩
def slices_Collect_int.f (l : List (List Int)) : Option (List (List Int)) := some l
theorem slices_Collect_int.calls (Bs Bn : Nat) (l r : List (List Int)) (w : World) (hl : ChS w (.func (.func 122) #[] #[.pointer (some ⟨Bs, 0, none⟩), .pointer (some ⟨Bn, 0, none⟩)]) l) (_ht : True) (h : slices_Collect_int.f l = some r) :
    Calls Try.prog 93 #[.func (.func 122) #[] #[.pointer (some ⟨Bs, 0, none⟩), .pointer (some ⟨Bn, 0, none⟩)]] w fun e w' => ∃ v0_ : Value, e = .returned v0_ ∧ ShS w' v0_ r ∧ Below w.heap.size w w' := by
  obtain rfl := Option.some.inj h
  obtain ⟨Bs', Bn', he, ad, c, m, K, l', h1, h2, h3, h4, h5, h6, h7, h8, h9, h10, rfl⟩ := hl
  cases he
  refine (collect_any Bs Bn ad c m K l' w h1 h2 h3 h4 h5 h6 h7 h8 h9 h10).mono ?_
  rintro e w' ⟨A', c', rfl, hc, hr, hb⟩
  exact ⟨_, rfl, ⟨A', c', rfl, hc, hr⟩, hb⟩
/-- How many rows. -/
def rowsN (n m : Nat) : Nat := (n + m - 1) / m
theorem rowsN_le {n m : Nat} (hm : 1 ≤ m) : n ≤ rowsN n m * m := by
  unfold rowsN
  have := Nat.div_add_mod (n + m - 1) m
  have h2 := Nat.mod_lt (n + m - 1) (show 0 < m by omega)
  rw [Nat.mul_comm] at this
  omega
theorem rowsN_lt {n m k : Nat} (hm : 1 ≤ m) (h : k < rowsN n m) : k * m < n := by
  unfold rowsN at h
  have h1 : (k + 1) * m ≤ n + m - 1 := (Nat.le_div_iff_mul_le (show 0 < m by omega)).1 h
  rw [Nat.add_mul, Nat.one_mul] at h1
  omega
theorem rowsN_bd {n m : Nat} (hm : 1 ≤ m) (h : n ≤ 1000) : rowsN n m ≤ 1000 := by
  unfold rowsN
  rcases Nat.eq_zero_or_pos n with h0 | h0
  · subst h0
    rw [Nat.zero_add, Nat.div_eq_of_lt (by omega)]; omega
  · refine Nat.le_trans (Nat.div_le_of_le_mul ?_) h
    have : m + (n - 1) * 1 ≤ m * n := by
      have h3 : n - 1 + 1 = n := by omega
      have h2 : m * n = m * (n - 1) + m := by rw [← Nat.mul_succ]; congr 1; omega
      have : (n - 1) * 1 ≤ m * (n - 1) := by rw [Nat.mul_comm]; exact Nat.mul_le_mul_right _ hm
      omega
    omega
def slices_Chunk_int_int.f (l : List Int) (m : Int) : Option (List (List Int)) := if 1 ≤ l.length ∧ l.length ≤ 1000 ∧ 1 ≤ m ∧ m < 1000 then some (chunksN m.toNat (rowsN l.length m.toNat) l) else none
theorem slices_Chunk_int_int.calls (A1 : Option Addr) (c1 : Nat) (l1 : List Int) (a2 : Int) (r : List (List Int)) (w : World) (hr1 : Kd.C (Kd.int .i64) w A1 l1.length l1) (hc1 : l1.length ≤ c1) (h : slices_Chunk_int_int.f l1 a2 = some r) :
    Calls Try.prog 94 #[.slice A1 l1.length c1, .int .i64 a2] w fun e w' => ∃ v0_ : Value, e = .returned v0_ ∧ ChS w' v0_ r ∧ Below w.heap.size w w' := by
  unfold slices_Chunk_int_int.f at h
  split at h
  · rename_i hn
    obtain ⟨h1, h2, h3, h4⟩ := hn
    obtain ⟨m, rfl⟩ := Int.eq_ofNat_of_zero_le (show 0 ≤ a2 by omega)
    rw [Int.toNat_natCast] at h
    obtain rfl := Option.some.inj h
    obtain ⟨ad, rfl, _⟩ := at_i64 hr1 0 (by omega)
    refine (chunk_any (some ad) l1.length c1 m (by omega) w).mono ?_
    rintro e w' ⟨rfl, rfl⟩
    have HB1 := below_alloc (below_alloc (Below.refl w.heap.size w) (.cells #[.slice (some ad) l1.length c1] 22)) (.cells #[.int .i64 (m : Int)] 3)
    have b1 := blk_alloc (blk_new w (.cells #[.slice (some ad) l1.length c1] 22)) (.cells #[.int .i64 (m : Int)] 3)
    have b2 := blk_new (w.alloc (.cells #[.slice (some ad) l1.length c1] 22)) (.cells #[.int .i64 (m : Int)] 3)
    rw [World.size_alloc] at b2
    exact ⟨_, rfl, ⟨_, _, rfl, ad, c1, m, rowsN l1.length m, l1, by omega, by omega, by omega, hc1, (blk_cell b1 0).trans rfl, (blk_cell b2 0).trans rfl, Kd.C_below hr1 HB1, rowsN_le (by omega), fun k hk => rowsN_lt (by omega) hk, rowsN_bd (by omega) h2, rfl⟩, HB1⟩
  · cases h
def preset_each.f (l : List Int) : Option (List (List Int)) := if 1 ≤ l.length ∧ l.length ≤ 1000 then some (chunksN 1 l.length l) else none
theorem preset_each.calls (A1 : Option Addr) (c1 : Nat) (l1 : List Int) (r : List (List Int)) (w : World) (hr1 : Kd.C (Kd.int .i64) w A1 l1.length l1) (hc1 : l1.length ≤ c1) (h : preset_each.f l1 = some r) :
    Calls Try.prog 90 #[.slice A1 l1.length c1] w fun e w' => ∃ v0_ : Value, e = .returned v0_ ∧ ShS w' v0_ r ∧ Below w.heap.size w w' := by
  unfold preset_each.f at h
  split at h
  · rename_i hn
    obtain rfl := Option.some.inj h
    obtain ⟨ad, rfl, _⟩ := at_i64 hr1 0 (by omega)
    refine (each_any ad c1 l1 w hn.2 hn.1 hc1 hr1).mono ?_
    rintro e w' ⟨A', c', rfl, hc, hr, hb⟩
    exact ⟨_, rfl, ⟨A', c', rfl, hc, hr⟩, hb⟩
  · cases h
end Go.Proofs.Ytplngfammfdemaa
