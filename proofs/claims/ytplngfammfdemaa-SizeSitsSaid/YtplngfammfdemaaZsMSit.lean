-- A copy of the text YtplngfammfdemaaMSit with what this claim does not reach left out (prune.py, a program of this project).
import Derived.Test.YtplngfammfdemaaZsMAl
import Derived.Test.YtplngfammfdemaaZsPx8
namespace Go.Proofs.Ytplngfammfdemaa
set_option linter.unusedVariables false
set_option linter.unusedSimpArgs false
open Go.RowKit Go.Proofs.YtplngfammfdemaaW.PrintWords Go.Proofs.YtplngfammfdemaaW.PrintLast Go.Proofs.YtplngfammfdemaaW.PrintMore Go.Proofs.Ytplngfammfdemaa.P
theorem cons_lt {x : S48} {S : List S48} {c : Int} (h1 : x.f0 < c) (hS : ∀ z ∈ S, z.f0 < c) : ∀ z ∈ x :: S, z.f0 < c := by
  intro z hz
  rcases List.mem_cons.1 hz with rfl | hz
  · exact h1
  · exact hS z hz
theorem nil_all {p : S48 → Prop} : ∀ z ∈ ([] : List S48), p z := fun _ h => absurd h List.not_mem_nil
/-- Seats in order, at a client: its seat in the midst, or none. -/
theorem split_at (c : Int) : ∀ l : List S48, l.Pairwise ltP →
    (∃ S y G, l = S ++ y :: G ∧ y.f0 = c ∧ (∀ x ∈ S, x.f0 < c) ∧ (∀ x ∈ G, c < x.f0)) ∨ (∃ S G, l = S ++ G ∧ (∀ x ∈ S, x.f0 < c) ∧ (∀ x ∈ G, c < x.f0))
  | [], _ => .inr ⟨[], [], rfl, nil_all, nil_all⟩
  | x :: l, h => by
    rw [List.pairwise_cons] at h
    obtain ⟨hx, hl⟩ := h
    by_cases h1 : x.f0 < c
    · rcases split_at c l hl with ⟨S, y, G, rfl, hy, hS, hG⟩ | ⟨S, G, rfl, hS, hG⟩
      · exact .inl ⟨x :: S, y, G, rfl, hy, cons_lt h1 hS, hG⟩
      · exact .inr ⟨x :: S, G, rfl, cons_lt h1 hS, hG⟩
    · by_cases h2 : x.f0 = c
      · exact .inl ⟨[], x, l, rfl, h2, nil_all, fun z hz => by have := (hx z hz).1; omega⟩
      · refine .inr ⟨[], x :: l, rfl, nil_all, fun z hz => ?_⟩
        rcases List.mem_cons.1 hz with rfl | hz
        · omega
        · have := (hx z hz).1; omega
theorem cmp_lt (a b : Int) : cmp_Compare_int.f a b = some (if a < b then -1 else if b < a then 1 else 0) := by
  unfold cmp_Compare_int.f cmp_isNaN_int.f
  simp only [Option.bind_some]
  rw [if_neg (by simp), if_neg (by simp)]
  by_cases h : a < b
  · rw [if_pos h, if_pos h]
  · rw [if_neg h, if_neg h]
    by_cases h2 : b < a
    · rw [if_pos h2, if_pos h2]
    · rw [if_neg h2, if_neg h2]
theorem half_eq (i j : Nat) (h : i + j < 1000000) : wrap64 ((IntKind.u64.wrap (wrap64 ((i : Int) + (j : Int)))) / 2) = (((i + j) / 2 : Nat) : Int) := by
  have e1 : wrap64 ((i : Int) + (j : Int)) = (i : Int) + (j : Int) := w64 (by omega) (by omega)
  have e2 : IntKind.u64.wrap ((i : Int) + (j : Int)) = (i : Int) + (j : Int) := by rw [IntKind.wrap_u64]; omega
  rw [e1, e2, w64 (by omega) (by omega)]
  omega
theorem bs_go (l : List S48) (hl : l.length < 1000) (c : Int) (q : Nat) (hq : q ≤ l.length) (hlo : ∀ m : Nat, (hm : m < l.length) → m < q → l[m].f0 < c) (hhi : ∀ m : Nat, (hm : m < l.length) → q ≤ m → c ≤ l[m].f0) (fd : Bool) (hfd : ∀ h : q < l.length, fd = decide (l[q].f0 = c)) (hfn : q = l.length → fd = false) (d : Nat) :
    ∀ i j : Nat, i ≤ q → q ≤ j → j ≤ l.length → j - i ≤ d → Ev (fun k => api_Seat_int.l0 k l c (l.length : Int) (i : Int) (j : Int)) ((q : Int), fd) := by
  induction d with
  | zero =>
    intro i j hi hj hjl hd
    obtain rfl : i = q := by omega
    obtain rfl : j = i := by omega
    refine Ev.succ (Ev.const _) (fun k => ?_)
    rw [api_Seat_int.l0, if_neg (by omega)]
    by_cases h : j < l.length
    · rw [if_pos (by omega), if_pos (by omega), if_pos (by omega), rd48 l j h]
      unfold size_at_lit1.f
      rw [cmp_lt, Option.bind_some, Option.bind_some, hfd h]
      have := hhi j h (Nat.le_refl _)
      congr 2
      rw [if_neg (by omega), Bool.eq_iff_iff, beq_iff_eq, decide_eq_true_eq]
      split <;> constructor <;> intro h2 <;> first | omega | (simp at h2)
    · rw [if_neg (by omega), hfn (by omega)]
  | succ d ih =>
    intro i j hi hj hjl hd
    by_cases hij : i < j
    · have hh : (i + j) / 2 < l.length := by omega
      by_cases hlt : l[(i + j) / 2].f0 < c
      · have hq2 : (i + j) / 2 + 1 ≤ q := by
          by_cases h : q ≤ (i + j) / 2
          · have := hhi _ hh h; omega
          · omega
        have h := ih ((i + j) / 2 + 1) j hq2 hj hjl (by omega)
        refine Ev.succ h (fun k => ?_)
        rw [api_Seat_int.l0, if_pos (by omega), half_eq i j (by omega), if_pos (by omega), if_pos (by omega), rd48 l _ hh]
        unfold size_at_lit1.f
        rw [cmp_lt, Option.bind_some, Option.bind_some, if_pos hlt, if_pos (by omega), nx _ l.length hh (by omega)]
      · have hq2 : q ≤ (i + j) / 2 := by
          by_cases h : (i + j) / 2 < q
          · have := hlo _ hh h; omega
          · omega
        have h := ih i ((i + j) / 2) hi hq2 (by omega) (by omega)
        refine Ev.succ h (fun k => ?_)
        rw [api_Seat_int.l0, if_pos (by omega), half_eq i j (by omega), if_pos (by omega), if_pos (by omega), rd48 l _ hh]
        unfold size_at_lit1.f
        rw [cmp_lt, Option.bind_some, Option.bind_some, if_neg hlt, if_neg (by split <;> omega)]
    · exact ih i j hi hj hjl (by omega)
theorem at_ev (l : List S48) (hl : l.length < 1000) (c : Int) (q : Nat) (hq : q ≤ l.length) (hlo : ∀ m : Nat, (hm : m < l.length) → m < q → l[m].f0 < c) (hhi : ∀ m : Nat, (hm : m < l.length) → q ≤ m → c ≤ l[m].f0) (fd : Bool) (hfd : ∀ h : q < l.length, fd = decide (l[q].f0 = c)) (hfn : q = l.length → fd = false) : Ev (fun k => size_at.f k l c) ((q : Int), fd) := by
  obtain ⟨k0, h⟩ := bs_go l hl c q hq hlo hhi fd hfd hfn l.length 0 l.length (by omega) hq (by omega) (by omega)
  refine ⟨k0, fun k hk => ?_⟩
  have := h k hk
  unfold size_at.f api_Seat_int.f
  dsimp only at this ⊢
  rw [show ((0 : Nat) : Int) = 0 from rfl] at this
  rw [this]; rfl
theorem at_in (S : List S48) (y : S48) (G : List S48) (c : Int) (hl : (S ++ y :: G).length < 1000) (hy : y.f0 = c) (hS : ∀ x ∈ S, x.f0 < c) (hG : ∀ x ∈ G, c < x.f0) : Ev (fun k => size_at.f k (S ++ y :: G) c) ((S.length : Int), true) := by
  refine at_ev _ hl c S.length (by simp) (fun m hm h => ?_) (fun m hm h => ?_) true (fun h => ?_) (fun h => by simp at h)
  · rw [List.getElem_append_left h]; exact hS _ (List.getElem_mem h)
  · rw [List.getElem_append_right h]
    have hm2 : m - S.length < (y :: G).length := by simp only [List.length_append] at hm; omega
    rcases List.mem_cons.1 (List.getElem_mem hm2) with e | e
    · rw [e]; omega
    · have := hG _ e; omega
  · simp [hy]
theorem at_out (S G : List S48) (c : Int) (hl : (S ++ G).length < 1000) (hS : ∀ x ∈ S, x.f0 < c) (hG : ∀ x ∈ G, c < x.f0) : Ev (fun k => size_at.f k (S ++ G) c) ((S.length : Int), false) := by
  refine at_ev _ hl c S.length (by simp) (fun m hm h => ?_) (fun m hm h => ?_) false (fun h => ?_) (fun h => rfl)
  · rw [List.getElem_append_left h]; exact hS _ (List.getElem_mem h)
  · rw [List.getElem_append_right h]
    have hm2 : m - S.length < G.length := by simp only [List.length_append] at hm; omega
    have := hG _ (List.getElem_mem hm2)
    omega
  · rw [List.getElem_append_right (Nat.le_refl _)]
    symm
    rw [decide_eq_false_iff_not]
    have hm2 : S.length - S.length < G.length := by simp only [List.length_append] at h; omega
    have := hG _ (List.getElem_mem hm2)
    omega
theorem filt_lt (S G : List S48) (c : Int) (hS : ∀ x ∈ S, x.f0 < c) (hG : ∀ x ∈ G, ¬ x.f0 < c) : (S ++ G).filter (fun x => decide (x.f0 < c)) = S := by
  rw [List.filter_append, List.filter_eq_self.2 (fun x hx => by simpa using hS x hx), List.filter_eq_nil_iff.2 (fun x hx => by simpa using hG x hx), List.append_nil]
theorem filt_gt (S G : List S48) (c : Int) (hS : ∀ x ∈ S, ¬ c < x.f0) (hG : ∀ x ∈ G, c < x.f0) : (S ++ G).filter (fun x => decide (c < x.f0)) = G := by
  rw [List.filter_append, List.filter_eq_nil_iff.2 (fun x hx => by simpa using hS x hx), List.filter_eq_self.2 (fun x hx => by simpa using hG x hx), List.nil_append]
def withP (l : List S48) (x : S48) : List S48 := l.filter (fun y => decide (y.f0 < x.f0)) ++ x :: l.filter (fun y => decide (x.f0 < y.f0))
def hasB (l : List S48) (c : Int) : Bool := l.any (fun x => decide (x.f0 = c))
def touchP (l : List S48) (c t : Int) : List S48 := l.map (fun s => if s.f0 = c then ⟨s.f0, s.f1, s.f2, t⟩ else s)
def lessP (l : List S48) (c : Int) : List S48 := l.filter (fun y => !decide (y.f0 = c))
theorem has_in (S : List S48) (y : S48) (G : List S48) (c : Int) (hy : y.f0 = c) : hasB (S ++ y :: G) c = true := by
  unfold hasB
  rw [List.any_eq_true]
  exact ⟨y, by simp, by simpa using hy⟩
section
variable (S : List S48) (y : S48) (G : List S48) (c : Int) (hy : y.f0 = c) (hS : ∀ x ∈ S, x.f0 < c) (hG : ∀ x ∈ G, c < x.f0)
include hS hG
theorem with_out (x : S48) (hx : x.f0 = c) : withP (S ++ G) x = S ++ x :: G := by
  unfold withP
  rw [hx, filt_lt S G c hS (fun x hx => by have := hG x hx; omega), filt_gt S G c (fun x hx => by have := hS x hx; omega) hG]
theorem has_out : hasB (S ++ G) c = false := by
  unfold hasB
  rw [List.any_eq_false]
  intro x hx
  rw [decide_eq_true_eq]
  rcases List.mem_append.1 hx with h | h
  · have := hS x h; omega
  · have := hG x h; omega
theorem less_out : lessP (S ++ G) c = S ++ G := by
  unfold lessP
  rw [List.filter_eq_self]
  intro x hx
  rw [Bool.not_eq_true', decide_eq_false_iff_not]
  rcases List.mem_append.1 hx with h | h
  · have := hS x h; omega
  · have := hG x h; omega
include hy
theorem with_in (x : S48) (hx : x.f0 = c) : withP (S ++ y :: G) x = S ++ x :: G := by
  unfold withP
  rw [hx]
  rw [filt_lt S (y :: G) c hS (fun x hx => by
    rcases List.mem_cons.1 hx with rfl | h
    · omega
    · have := hG x h; omega)]
  rw [show S ++ y :: G = (S ++ [y]) ++ G by simp, filt_gt (S ++ [y]) G c (fun x hx => by
    rcases List.mem_append.1 hx with h | h
    · have := hS x h; omega
    · rw [List.mem_singleton.1 h]; omega) hG]
theorem less_in : lessP (S ++ y :: G) c = S ++ G := by
  have := less_out S G c hS hG
  unfold lessP at this ⊢
  rw [List.filter_append] at this ⊢
  rw [List.filter_cons, if_neg (by simp [hy])]
  exact this
theorem touch_in (t : Int) : touchP (S ++ y :: G) c t = S ++ (⟨y.f0, y.f1, y.f2, t⟩ : S48) :: G := by
  unfold touchP
  rw [List.map_append, List.map_cons, if_pos hy]
  congr 1
  · rw [List.map_congr_left (g := id) (fun x hx => by rw [if_neg (by have := hS x hx; omega)]; rfl), List.map_id]
  · congr 1
    rw [List.map_congr_left (g := id) (fun x hx => by rw [if_neg (by have := hG x hx; omega)]; rfl), List.map_id]
theorem own_in : (S ++ y :: G).filter (fun x => decide (x.f0 ∈ [c])) = [y] := by
  rw [List.filter_append, List.filter_eq_nil_iff.2 (fun x hx => by have := hS x hx; simp; omega), List.filter_cons, if_pos (by simp [hy]), List.filter_eq_nil_iff.2 (fun x hx => by have := hG x hx; simp; omega)]
  rfl
end
theorem clone_eq (l : List S48) (h : l.length < 1000) : api_Seat_68.f l = some l := by
  unfold api_Seat_68.f
  rw [Option.bind_some, List.nil_append, if_pos (by simp; omega)]
theorem time_eq (t : Int) : size_time.f t = some (decide (0 ≤ t ∧ t ≤ 1099511627776)) := by
  unfold size_time.f
  rw [sz_in, Option.bind_some]
  congr 1
  rw [Bool.eq_iff_iff, Bool.and_eq_true, decide_eq_true_eq, decide_eq_true_eq, decide_eq_true_eq]
theorem set_mid (S : List S48) (y x : S48) (G : List S48) : (S ++ y :: G).set S.length x = S ++ x :: G := by
  rw [List.set_append_right _ _ (Nat.le_refl _), Nat.sub_self, List.set_cons_zero]
def sitR (l : List S48) (x : S48) : List S48 × Int :=
  if RightP l ∧ mayP x then (if l.any (busyP x.f0 x.f3) then ([], 6) else if hasB l x.f0 = true ∨ l.length ≠ 6 then (withP l x, 0) else ([], 7)) else ([], 1)
theorem sit_ev (l : List S48) (hl : l.length < 1000) (c w h t : Int) : Ev (fun k => size_Sit.f k l c w h t) (sitR l ⟨c, w, h, t⟩) := by
  obtain ⟨k0, hr⟩ := right_ev l (by omega)
  unfold sitR
  by_cases hp : RightP l
  · rw [decide_eq_true hp] at hr
    by_cases hm : mayP ⟨c, w, h, t⟩
    · rw [if_pos ⟨hp, hm⟩]
      have hmid : ∀ (q : Int) (b : Bool) (R : List S48 × Int), Ev (fun k => size_at.f k l c) (q, b) → (∀ k, size_at.f k l c = some (q, b) → size_Sit.j0 (k + 1) l c t false c w h t = some R) → Ev (fun k => size_Sit.f k l c w h t) R := by
        rintro q b R ⟨k1, h1⟩ h2
        refine ⟨max k0 k1 + 1, fun k hk => ?_⟩
        obtain ⟨k, rfl⟩ : ∃ j, k = j + 1 := ⟨k - 1, by omega⟩
        have e := hr (k + 1) (by omega)
        dsimp only at e ⊢
        unfold size_Sit.f
        rw [e, Option.bind_some, if_pos rfl, sz_may, Option.bind_some, decide_eq_true hm]
        exact h2 k (h1 k (by omega))
      have hb : ∀ R : List S48 × Int, l.any (busyP c t) = true → ∀ k q b, size_at.f k l c = some (q, b) → size_Sit.j0 (k + 1) l c t false c w h t = some ([], 6) := by
        intro R hb k q b hat
        rw [size_Sit.j0, if_neg (by decide), hat, Option.bind_some, busy_eq l _ _ (by omega), Option.bind_some, if_pos hb]
      rcases split_at c l hp.2.2 with ⟨S, y, G, rfl, hy, hS, hG⟩ | ⟨S, G, rfl, hS, hG⟩
      · refine hmid _ _ _ (at_in S y G c hl hy hS hG) (fun k hat => ?_)
        by_cases hbu : (S ++ y :: G).any (busyP c t) = true
        · rw [if_pos hbu]; exact hb ([], 0) hbu k _ _ hat
        · rw [if_neg hbu, if_pos (.inl (has_in S y G c hy)), with_in S y G c hy hS hG _ rfl]
          rw [size_Sit.j0, if_neg (by decide), hat, Option.bind_some, busy_eq _ _ _ (by omega), Option.bind_some, if_neg hbu, if_pos rfl, clone_eq _ hl, Option.bind_some]
          dsimp only
          rw [if_pos (by omega), if_pos (by simp; omega), Int.toNat_natCast, set_mid]
      · refine hmid _ _ _ (at_out S G c hl hS hG) (fun k hat => ?_)
        by_cases hbu : (S ++ G).any (busyP c t) = true
        · rw [if_pos hbu]; exact hb ([], 0) hbu k _ _ hat
        · rw [if_neg hbu]
          rw [size_Sit.j0, if_neg (by decide), hat, Option.bind_some, busy_eq _ _ _ (by omega), Option.bind_some, if_neg hbu, if_neg (by simp)]
          by_cases h6 : (S ++ G).length = 6
          · rw [if_pos (by omega), if_neg (fun h => h.elim (fun h => by rw [has_out S G c hS hG] at h; cases h) (fun h => h h6))]
          · rw [if_neg (by omega), if_pos (.inr h6), with_out S G c hS hG _ rfl, clone_eq _ hl, Option.bind_some]
            unfold api_Seat_69.f
            dsimp only
            rw [if_pos ⟨by omega, by simp; omega, by omega⟩, Option.bind_some, Int.toNat_natCast, List.take_left, List.drop_left]
    · rw [if_neg (fun h => hm h.2)]
      refine ⟨k0 + 1, fun k hk => ?_⟩
      obtain ⟨k, rfl⟩ : ∃ j, k = j + 1 := ⟨k - 1, by omega⟩
      have e := hr (k + 1) (by omega)
      dsimp only at e ⊢
      unfold size_Sit.f
      rw [e, Option.bind_some, if_pos rfl, sz_may, Option.bind_some, decide_eq_false hm, size_Sit.j0, if_pos (show (!false) = true from rfl)]
  · rw [decide_eq_false hp] at hr
    rw [if_neg (fun h => hp h.1)]
    refine ⟨k0 + 1, fun k hk => ?_⟩
    obtain ⟨k, rfl⟩ : ∃ j, k = j + 1 := ⟨k - 1, by omega⟩
    have e := hr (k + 1) (by omega)
    dsimp only at e ⊢
    unfold size_Sit.f
    rw [e, Option.bind_some, if_neg (by decide), size_Sit.j0, if_pos rfl]
def touchR (l : List S48) (c t : Int) : List S48 × Int :=
  if RightP l ∧ (0 ≤ t ∧ t ≤ 1099511627776) then (if hasB l c = true then (if l.any (busyP c t) then ([], 6) else (touchP l c t, 0)) else ([], 5)) else ([], 1)
theorem touch_ev (l : List S48) (hl : l.length < 1000) (c t : Int) : Ev (fun k => size_Touch.f k l c t) (touchR l c t) := by
  obtain ⟨k0, hr⟩ := right_ev l (by omega)
  unfold touchR
  by_cases hp : RightP l
  · rw [decide_eq_true hp] at hr
    by_cases hm : 0 ≤ t ∧ t ≤ 1099511627776
    · rw [if_pos ⟨hp, hm⟩]
      have hmid : ∀ (q : Int) (b : Bool) (R : List S48 × Int), Ev (fun k => size_at.f k l c) (q, b) → (∀ k, size_at.f k l c = some (q, b) → size_Touch.j0 (k + 1) l c t false = some R) → Ev (fun k => size_Touch.f k l c t) R := by
        rintro q b R ⟨k1, h1⟩ h2
        refine ⟨max k0 k1 + 1, fun k hk => ?_⟩
        obtain ⟨k, rfl⟩ : ∃ j, k = j + 1 := ⟨k - 1, by omega⟩
        have e := hr (k + 1) (by omega)
        dsimp only at e ⊢
        unfold size_Touch.f
        rw [e, Option.bind_some, if_pos rfl, time_eq, Option.bind_some, decide_eq_true hm]
        exact h2 k (h1 k (by omega))
      rcases split_at c l hp.2.2 with ⟨S, y, G, rfl, hy, hS, hG⟩ | ⟨S, G, rfl, hS, hG⟩
      · refine hmid _ _ _ (at_in S y G c hl hy hS hG) (fun k hat => ?_)
        rw [if_pos (has_in S y G c hy)]
        rw [size_Touch.j0, if_neg (by decide), hat, Option.bind_some, if_pos rfl, busy_eq _ _ _ (by omega), Option.bind_some]
        by_cases hbu : (S ++ y :: G).any (busyP c t) = true
        · rw [if_pos hbu, if_pos hbu]
        · rw [if_neg hbu, if_neg hbu, clone_eq _ hl, Option.bind_some]
          dsimp only
          rw [if_pos (by omega), if_pos (by simp; omega), Int.toNat_natCast, rd48 _ _ (by simp), touch_in S y G c hy hS hG, set_mid]
          simp
      · refine hmid _ _ _ (at_out S G c hl hS hG) (fun k hat => ?_)
        rw [if_neg (by rw [has_out S G c hS hG]; decide), size_Touch.j0, if_neg (by decide), hat, Option.bind_some, if_neg (by simp)]
    · rw [if_neg (fun h => hm h.2)]
      refine ⟨k0 + 1, fun k hk => ?_⟩
      obtain ⟨k, rfl⟩ : ∃ j, k = j + 1 := ⟨k - 1, by omega⟩
      have e := hr (k + 1) (by omega)
      dsimp only at e ⊢
      unfold size_Touch.f
      rw [e, Option.bind_some, if_pos rfl, time_eq, Option.bind_some, decide_eq_false hm, size_Touch.j0, if_pos (show (!false) = true from rfl)]
  · rw [decide_eq_false hp] at hr
    rw [if_neg (fun h => hp h.1)]
    refine ⟨k0 + 1, fun k hk => ?_⟩
    obtain ⟨k, rfl⟩ : ∃ j, k = j + 1 := ⟨k - 1, by omega⟩
    have e := hr (k + 1) (by omega)
    dsimp only at e ⊢
    unfold size_Touch.f
    rw [e, Option.bind_some, if_neg (by decide), size_Touch.j0, if_pos rfl]
def leaveR (l : List S48) (c : Int) : List S48 × Int := if RightP l then (if hasB l c = true then (lessP l c, 0) else ([], 5)) else ([], 1)
theorem leave_ev (l : List S48) (hl : l.length < 1000) (c : Int) : Ev (fun k => size_Leave.f k l c) (leaveR l c) := by
  obtain ⟨k0, hr⟩ := right_ev l (by omega)
  unfold leaveR
  by_cases hp : RightP l
  · rw [decide_eq_true hp] at hr
    rw [if_pos hp]
    rcases split_at c l hp.2.2 with ⟨S, y, G, rfl, hy, hS, hG⟩ | ⟨S, G, rfl, hS, hG⟩
    · obtain ⟨k1, h1⟩ := at_in S y G c hl hy hS hG
      refine ⟨max k0 k1, fun k hk => ?_⟩
      have e := hr k (by omega)
      have e1 := h1 k (by omega)
      dsimp only at e e1 ⊢
      unfold size_Leave.f
      rw [e, Option.bind_some, if_pos rfl, e1, Option.bind_some, if_pos rfl, clone_eq _ hl, Option.bind_some, if_pos (has_in S y G c hy), less_in S y G c hy hS hG]
      dsimp only
      unfold api_Seat_71.f
      have hlen : (S ++ y :: G).length = S.length + G.length + 1 := by simp; omega
      rw [w64 (by omega) (by omega), if_pos ⟨rfl, by omega, by omega, by omega⟩, Option.bind_some, Int.toNat_natCast, List.eraseIdx_append_of_length_le (Nat.le_refl _), Nat.sub_self, List.eraseIdx_cons_zero]
    · obtain ⟨k1, h1⟩ := at_out S G c hl hS hG
      refine ⟨max k0 k1, fun k hk => ?_⟩
      have e := hr k (by omega)
      have e1 := h1 k (by omega)
      dsimp only at e e1 ⊢
      unfold size_Leave.f
      rw [e, Option.bind_some, if_pos rfl, e1, Option.bind_some, if_neg (by simp), if_neg (by rw [has_out S G c hS hG]; decide)]
  · rw [decide_eq_false hp] at hr
    rw [if_neg hp]
    refine ⟨k0, fun k hk => ?_⟩
    have e := hr k (by omega)
    dsimp only at e ⊢
    unfold size_Leave.f
    rw [e, Option.bind_some, if_neg (by decide)]
end Go.Proofs.Ytplngfammfdemaa
