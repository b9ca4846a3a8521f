-- A copy of the text YtplngfammfdemaaMAct with what this claim does not reach left out (prune.py, a program of this project).
import Derived.Test.YtplngfammfdemaaZaMRf
import Derived.Test.YtplngfammfdemaaZaMSit
import Derived.Test.YtplngfammfdemaaZaMTl
import Derived.Test.YtplngfammfdemaaZaPx11
namespace Go.Proofs.Ytplngfammfdemaa
set_option linter.unusedVariables false
set_option linter.unusedSimpArgs false
open Go.RowKit Go.Proofs.YtplngfammfdemaaW.PrintWords Go.Proofs.YtplngfammfdemaaW.PrintLast Go.Proofs.YtplngfammfdemaaW.PrintMore Go.Proofs.Ytplngfammfdemaa.P
theorem mod_in (a n : Int) (h0 : 0 < n) (h1 : n < 1000) : 0 ≤ Int.tmod (wrap64 ((Int.tmod a n) + n)) n ∧ Int.tmod (wrap64 ((Int.tmod a n) + n)) n < n := by
  have h2 := Int.lt_tmod_of_pos a h0
  have h3 := Int.tmod_lt_of_pos a h0
  rw [w64 (by omega) (by omega)]
  exact ⟨Int.tmod_nonneg n (by omega), Int.tmod_lt_of_pos _ h0⟩
/-- Of all that is in l, best is in l, and the latest. -/
theorem fold_top (l : List S48) : ∀ b : S48, (l.foldl better b = b ∨ l.foldl better b ∈ l) ∧ b.f3 ≤ (l.foldl better b).f3 ∧ ∀ y ∈ l, y.f3 ≤ (l.foldl better b).f3 := by
  induction l with
  | nil => exact fun b => ⟨.inl rfl, Int.le_refl _, fun y h => absurd h List.not_mem_nil⟩
  | cons x l ih =>
    intro b
    obtain ⟨h1, h2, h3⟩ := ih (better b x)
    have hb : b.f3 ≤ (better b x).f3 ∧ x.f3 ≤ (better b x).f3 ∧ (better b x = b ∨ better b x = x) := by
      unfold better
      by_cases h : b.f3 < x.f3
      · rw [if_pos h]; exact ⟨by omega, Int.le_refl _, .inr rfl⟩
      · rw [if_neg h]; exact ⟨Int.le_refl _, by omega, .inl rfl⟩
    rw [List.foldl_cons]
    refine ⟨?_, by omega, fun y hy => ?_⟩
    · rcases h1 with h1 | h1
      · rw [h1]
        rcases hb.2.2 with e | e
        · exact .inl e
        · rw [e]; exact .inr List.mem_cons_self
      · exact .inr (List.mem_cons_of_mem _ h1)
    · rcases List.mem_cons.1 hy with rfl | hy
      · omega
      · exact h3 y hy
theorem latest_is (l : List S48) (z : S48) (hz : z ∈ l) (h0 : ∀ y ∈ l, 0 ≤ y.f3) (h : ∀ y ∈ l, y = z ∨ y.f3 < z.f3) : latR l = (z, 0) := by
  obtain ⟨h1, h2, h3⟩ := fold_top l ⟨0, 0, 0, -1⟩
  have hb : bestF l = z := by
    unfold bestF
    have hzl := h3 z hz
    rcases h1 with h1 | h1
    · rw [h1] at hzl
      have h4 : z.f3 ≤ -1 := hzl
      have := h0 z hz
      omega
    · rcases h _ h1 with e | e
      · exact e
      · omega
  unfold latR
  rw [hb, if_neg (by have := h0 z hz; omega)]
/-- What holds between two acts. -/
structure Inv (l order : List S48) (now : Int) : Prop where
  right : RightP l
  perm : l.Perm order
  up : order.Pairwise (fun a b => a.f3 < b.f3)
  low : ∀ y ∈ order, y.f3 ≤ now
  now0 : 0 ≤ now
  now1 : now ≤ 100000
theorem rights_mid {S G : List S48} {c : Int} (x : S48) (hx : x.f0 = c) (hm : mayP x) (hS : ∀ y ∈ S, y.f0 < c) (hG : ∀ y ∈ G, c < y.f0) (hr : ∀ y ∈ S ++ G, mayP y) (hp : (S ++ G).Pairwise ltP) (ht : ∀ y ∈ S ++ G, y.f3 ≠ x.f3) (hl : (S ++ G).length + 1 ≤ 6) : RightP (S ++ x :: G) := by
  rw [List.pairwise_append] at hp
  obtain ⟨p1, p2, p3⟩ := hp
  refine ⟨by simp at hl ⊢; omega, fun y hy => ?_, ?_⟩
  · rcases List.mem_append.1 hy with h | h
    · exact hr y (List.mem_append_left _ h)
    · rcases List.mem_cons.1 h with rfl | h
      · exact hm
      · exact hr y (List.mem_append_right _ h)
  · rw [List.pairwise_append, List.pairwise_cons]
    refine ⟨p1, ⟨fun y hy => ⟨by have := hG y hy; omega, fun e => ht y (List.mem_append_right _ hy) e.symm⟩, p2⟩, fun y hy z hz => ?_⟩
    rcases List.mem_cons.1 hz with rfl | hz
    · exact ⟨by have := hS y hy; omega, ht y (List.mem_append_left _ hy)⟩
    · exact p3 y hy z hz
theorem rights_less {l : List S48} (h : RightP l) (c : Int) : RightP (lessP l c) := by
  have hs : (lessP l c).Sublist l := List.filter_sublist
  refine ⟨Nat.le_trans hs.length_le h.1, fun y hy => h.2.1 y (hs.subset hy), h.2.2.sublist hs⟩
section
variable {l order : List S48} {now : Int} (h : Inv l order now)
include h
theorem Inv.len : order.length ≤ 6 := by rw [← h.perm.length_eq]; exact h.right.1
theorem Inv.next {now' : Int} (h1 : now ≤ now') (h2 : now' ≤ 100000) : Inv l order now' := ⟨h.right, h.perm, h.up, fun y hy => Int.le_trans (h.low y hy) h1, by have := h.now0; omega, h2⟩
theorem Inv.nobusy {now' : Int} (h1 : now < now') (c : Int) : l.any (busyP c now') = false := by
  rw [List.any_eq_false]
  intro y hy
  unfold busyP
  rw [Bool.and_eq_true, decide_eq_true_eq, decide_eq_true_eq]
  rintro ⟨_, e⟩
  have := h.low y (h.perm.mem_iff.1 hy)
  omega
/-- Another seat in the place of a client's: the last one. -/
theorem Inv.put {now' : Int} (h1 : now < now') (h2 : now' ≤ 100000) (x : S48) (hm : mayP x) (ht : x.f3 = now') (hl : hasB l x.f0 = true ∨ l.length ≠ 6) : Inv (withP l x) (lessP order x.f0 ++ [x]) now' := by
  have hlow : ∀ y ∈ l, y.f3 ≠ x.f3 := fun y hy => by have := h.low y (h.perm.mem_iff.1 hy); omega
  have hperm : (lessP l x.f0).Perm (lessP order x.f0) := h.perm.filter _
  have hr : RightP (withP l x) ∧ (withP l x).Perm (lessP l x.f0 ++ [x]) := by
    have hps := h.right.2.2
    rcases split_at x.f0 l hps with ⟨S, y, G, rfl, hy, hS, hG⟩ | ⟨S, G, rfl, hS, hG⟩
    · have hw := with_in S y G x.f0 hy hS hG x rfl
      have hle := less_in S y G x.f0 hy hS hG
      have hrl := rights_less h.right x.f0
      rw [hle] at hrl
      refine ⟨?_, ?_⟩
      · rw [hw]
        refine rights_mid x rfl hm hS hG hrl.2.1 hrl.2.2 (fun z hz => hlow z ?_) (by have := h.right.1; simp at this ⊢; omega)
        rcases List.mem_append.1 hz with hz | hz
        · exact List.mem_append_left _ hz
        · exact List.mem_append_right _ (List.mem_cons_of_mem _ hz)
      · rw [hw, hle]
        exact List.perm_middle.trans (List.perm_append_singleton x (S ++ G)).symm
    · have hw := with_out S G x.f0 hS hG x rfl
      have hle := less_out S G x.f0 hS hG
      refine ⟨?_, ?_⟩
      · rw [hw]
        refine rights_mid x rfl hm hS hG h.right.2.1 h.right.2.2 hlow ?_
        have h6 := h.right.1
        rcases hl with hl | hl
        · rw [has_out S G x.f0 hS hG] at hl; cases hl
        · omega
      · rw [hw, hle]
        exact List.perm_middle.trans (List.perm_append_singleton x (S ++ G)).symm
  refine ⟨hr.1, hr.2.trans (hperm.append_right _), ?_, ?_, by have := h.now0; omega, h2⟩
  · rw [List.pairwise_append]
    refine ⟨h.up.sublist List.filter_sublist, List.pairwise_singleton _ _, fun y hy z hz => ?_⟩
    rw [List.mem_singleton.1 hz, ht]
    have := h.low y (List.mem_filter.1 hy).1
    omega
  · intro y hy
    rcases List.mem_append.1 hy with hy | hy
    · have := h.low y (List.mem_filter.1 hy).1; omega
    · rw [List.mem_singleton.1 hy]; omega
theorem Inv.less {now' : Int} (h1 : now ≤ now') (h2 : now' ≤ 100000) (c : Int) : Inv (lessP l c) (lessP order c) now' :=
  ⟨rights_less h.right c, h.perm.filter _, h.up.sublist List.filter_sublist, fun y hy => Int.le_trans (h.low y (List.mem_filter.1 hy).1) h1, by have := h.now0; omega, h2⟩
theorem Inv.last (h0 : 0 < order.length) : latR l = (order[order.length - 1]'(by omega), 0) := by
  refine latest_is l _ (h.perm.mem_iff.2 (List.getElem_mem _)) (fun y hy => (h.right.2.1 y hy).2.2.2.2.2.2.1) (fun y hy => ?_)
  obtain ⟨i, hi, rfl⟩ := List.getElem_of_mem (h.perm.mem_iff.1 hy)
  by_cases e : i = order.length - 1
  · left; simp only [e]
  · right
    exact List.pairwise_iff_getElem.1 h.up i (order.length - 1) hi (by omega) (by omega)
theorem Inv.has (c : Int) : hasB l c = hasB order c := by
  unfold hasB
  rw [Bool.eq_iff_iff, List.any_eq_true, List.any_eq_true]
  constructor
  · rintro ⟨y, hy, h2⟩; exact ⟨y, h.perm.mem_iff.1 hy, h2⟩
  · rintro ⟨y, hy, h2⟩; exact ⟨y, h.perm.mem_iff.2 hy, h2⟩
/-- What is touched is put anew. -/
theorem Inv.touch (c t : Int) (y : S48) (hy : y ∈ order) (hc : y.f0 = c) : touchP l c t = withP l ⟨y.f0, y.f1, y.f2, t⟩ := by
  have hyl := h.perm.mem_iff.2 hy
  have hps := h.right.2.2
  rcases split_at c l hps with ⟨S, z, G, rfl, hz, hS, hG⟩ | ⟨S, G, rfl, hS, hG⟩
  · have : y = z := by
      rcases List.mem_append.1 hyl with h2 | h2
      · have := hS y h2; omega
      · rcases List.mem_cons.1 h2 with h2 | h2
        · exact h2
        · have := hG y h2; omega
    subst this
    rw [touch_in S y G c hz hS hG]
    exact (with_in S y G c hz hS hG ⟨y.f0, y.f1, y.f2, t⟩ hz).symm
  · rcases List.mem_append.1 hyl with h2 | h2
    · have := hS y h2; omega
    · have := hG y h2; omega
end
def kd (a : Int) : Int := Int.tmod (wrap64 ((Int.tmod a 3) + 3)) 3
theorem act_j4 (acts : List S71) (n i : Int) (l order : List S48) (now : Int) (h : Inv l order now) (hn : Ev (fun k => backseatlaw16_SizeActive.l0 k l order now acts n (wrap64 (i + 1))) true) : Ev (fun k => backseatlaw16_SizeActive.j4 k l now order acts n i) true := by
  have h6 := h.right.1
  have h6o := h.len
  obtain ⟨k0, hr⟩ := right_ev l (by omega)
  obtain ⟨k1, hn⟩ := hn
  refine ⟨max k0 k1 + 1, fun k hk => ?_⟩
  obtain ⟨k, rfl⟩ : ∃ j, k = j + 1 := ⟨k - 1, by omega⟩
  have qr := hr k (by omega)
  have qn := hn k (by omega)
  dsimp only at qr qn ⊢
  rw [decide_eq_true h.right] at qr
  rw [backseatlaw16_SizeActive.j4, latest_eq l (by omega), if_pos h.right, Option.bind_some, qr, Option.bind_some, if_pos rfl, if_pos (by rw [h.perm.length_eq])]
  by_cases h0 : 0 < order.length
  · have hl := h.last h0
    rw [if_pos (by omega), hl]
    dsimp only
    have hw : wrap64 ((order.length : Int) - 1) = ((order.length - 1 : Nat) : Int) := by rw [w64 (by omega) (by omega)]; omega
    rw [if_pos rfl, hw, if_pos (by omega), if_pos (by omega), rd48 order (order.length - 1) (by omega), if_neg (by simp)]
    exact qn
  · rw [if_neg (by omega)]
    exact qn
theorem act_l2 (acts : List S71) (n i : Int) (l order : List S48) (now c w h : Int) (x0 x1 x2 x3 x4 : Int) (ho : order.length < 1000) (F : List S48) (hj : Ev (fun k => backseatlaw16_SizeActive.j4 k l now (if kd x0 < 2 then F ++ [⟨c, w, h, now⟩] else F) acts n i) true) (d : Nat) :
    ∀ (m : Nat) (out : List S48), m + d = order.length → out.length ≤ m → out ++ lessP (order.drop m) c = F → Ev (fun k => backseatlaw16_SizeActive.l2 k l now c w h out acts n i order (order.length : Int) (m : Int) x0 x1 x2 x3 x4) true := by
  induction d with
  | zero =>
    intro m out hm hout hF
    rw [List.drop_of_length_le (by omega)] at hF
    have : out = F := by rw [← hF]; simp [lessP]
    subst this
    refine Ev.succ hj (fun k => ?_)
    rw [backseatlaw16_SizeActive.l2, if_neg (by omega)]
    show (if kd x0 < 2 then _ else _) = _
    by_cases h2 : kd x0 < 2
    · rw [if_pos h2, if_pos h2, if_pos (by omega)]
    · rw [if_neg h2, if_neg h2]
  | succ d ih =>
    intro m out hm hout hF
    have hml : m < order.length := by omega
    rw [List.drop_eq_getElem_cons hml] at hF
    unfold lessP at hF ih
    rw [List.filter_cons] at hF
    by_cases hc : order[m].f0 = c
    · rw [if_neg (by simp [hc])] at hF
      exact Ev.succ (ih (m + 1) out (by omega) (by omega) hF) (fun k => by rw [backseatlaw16_SizeActive.l2, if_pos (by omega), if_pos (by omega), if_pos (by omega), rd48 order m hml, if_pos hc, nx m _ hml (by omega)])
    · rw [if_pos (by simp [hc])] at hF
      exact Ev.succ (ih (m + 1) (out ++ [order[m]]) (by omega) (by simp; omega) (by rw [List.append_assoc]; exact hF)) (fun k => by rw [backseatlaw16_SizeActive.l2, if_pos (by omega), if_pos (by omega), if_pos (by omega), rd48 order m hml, if_neg hc, if_pos (by omega), nx m _ hml (by omega)])
theorem act_j2 (acts : List S71) (n i : Int) (l l2 order : List S48) (now c w h : Int) (x0 x1 x2 x3 x4 : Int) (ho : order.length < 1000)
    (hI : Inv l2 (if kd x0 < 2 then lessP order c ++ [⟨c, w, h, now⟩] else lessP order c) now) (hn : ∀ l' o', Inv l' o' now → Ev (fun k => backseatlaw16_SizeActive.l0 k l' o' now acts n (wrap64 (i + 1))) true) :
    Ev (fun k => backseatlaw16_SizeActive.j2 k l order now c w h l2 0 acts n i x0 x1 x2 x3 x4) true := by
  have h1 := act_l2 acts n i l2 order now c w h x0 x1 x2 x3 x4 ho (lessP order c) (act_j4 acts n i l2 _ now hI (hn _ _ hI)) order.length 0 [] (by omega) (Nat.le_refl _) (by simp)
  exact Ev.succ h1 (fun k => by rw [backseatlaw16_SizeActive.j2, if_pos rfl]; rfl)
theorem act_j2e (acts : List S71) (n i : Int) (l l2 order : List S48) (now c w h e : Int) (he : e ≠ 0) (x0 x1 x2 x3 x4 : Int)
    (hI : Inv l order now) (hn : ∀ l' o', Inv l' o' now → Ev (fun k => backseatlaw16_SizeActive.l0 k l' o' now acts n (wrap64 (i + 1))) true) :
    Ev (fun k => backseatlaw16_SizeActive.j2 k l order now c w h l2 e acts n i x0 x1 x2 x3 x4) true :=
  Ev.succ (hn _ _ hI) (fun k => by rw [backseatlaw16_SizeActive.j2, if_neg he])
/-- Where a client's seat stands in the order. -/
def AtP (order : List S48) (c b : Int) (m : Nat) : Prop := (b = -1 ∧ ∀ j, (hj : j < order.length) → j < m → order[j].f0 ≠ c) ∨ (∃ j : Nat, ∃ hj : j < order.length, j < m ∧ b = j ∧ order[j].f0 = c)
theorem act_l1 (acts : List S71) (n i : Int) (l order : List S48) (now c w h : Int) (x0 x1 x2 x3 x4 : Int) (ho : order.length < 1000)
    (hE : ∀ b, AtP order c b order.length → Ev (fun k => backseatlaw16_SizeActive.l1 k l order now c w h b acts n i order (order.length : Int) (order.length : Int) x0 x1 x2 x3 x4) true) (d : Nat) :
    ∀ (m : Nat) (b : Int), m + d = order.length → AtP order c b m → Ev (fun k => backseatlaw16_SizeActive.l1 k l order now c w h b acts n i order (order.length : Int) (m : Int) x0 x1 x2 x3 x4) true := by
  induction d with
  | zero =>
    intro m b hm hb
    obtain rfl : m = order.length := by omega
    exact hE b hb
  | succ d ih =>
    intro m b hm hb
    have hml : m < order.length := by omega
    by_cases hc : order[m].f0 = c
    · exact Ev.succ (ih (m + 1) (m : Int) (by omega) (.inr ⟨m, hml, by omega, rfl, hc⟩)) (fun k => by rw [backseatlaw16_SizeActive.l1, if_pos (by omega), if_pos (by omega), if_pos (by omega), rd48 order m hml, if_pos hc, nx m _ hml (by omega)])
    · refine Ev.succ (ih (m + 1) b (by omega) ?_) (fun k => by rw [backseatlaw16_SizeActive.l1, if_pos (by omega), if_pos (by omega), if_pos (by omega), rd48 order m hml, if_neg hc, nx m _ hml (by omega)])
      rcases hb with ⟨h1, h2⟩ | ⟨j, hj, h1, h2, h3⟩
      · refine .inl ⟨h1, fun j hj hjm => ?_⟩
        by_cases e : j = m
        · subst e; exact hc
        · exact h2 j hj (by omega)
      · exact .inr ⟨j, hj, by omega, h2, h3⟩
theorem act_round (acts : List S71) (n i : Int) (l order : List S48) (now now' c w h : Int) (x0 x1 x2 x3 x4 : Int) (hI : Inv l order now) (h1 : now < now') (h2 : now' ≤ 100000) (hc : 1 ≤ c ∧ c ≤ 9) (hw : 1 ≤ w ∧ w ≤ 80) (hh : 2 ≤ h ∧ h ≤ 50)
    (hn : ∀ l' o', Inv l' o' now' → Ev (fun k => backseatlaw16_SizeActive.l0 k l' o' now' acts n (wrap64 (i + 1))) true) :
    Ev (fun k => backseatlaw16_SizeActive.l1 k l order now' c w h (-1) acts n i order (order.length : Int) 0 x0 x1 x2 x3 x4) true := by
  have h6 := hI.right.1
  have h6o := hI.len
  have hkd := mod_in x0 3 (by decide) (by decide)
  have hmay : ∀ w h : Int, 1 ≤ w → w ≤ 80 → 2 ≤ h → h ≤ 50 → mayP ⟨c, w, h, now'⟩ := fun w h a1 a2 a3 a4 => ⟨hc.1, by show c ≤ 99; omega, a1, a2, a3, a4, by have := hI.now0; show 0 ≤ now'; omega, by show now' ≤ 1099511627776; omega⟩
  have hbusy := hI.nobusy h1 c
  refine act_l1 acts n i l order now' c w h x0 x1 x2 x3 x4 (by omega) (fun b hb => ?_) order.length 0 (-1) (by omega) (.inl ⟨rfl, fun j _ h => by omega⟩)
  -- has it a seat, or not
  have hhas : (b ≥ 0 ∧ hasB l c = true) ∨ (b = -1 ∧ hasB l c = false) := by
    rw [hI.has c]
    rcases hb with ⟨e1, e2⟩ | ⟨j, hj, _, e1, e2⟩
    · right
      refine ⟨e1, ?_⟩
      unfold hasB
      rw [List.any_eq_false]
      intro y hy
      obtain ⟨j, hj, rfl⟩ := List.getElem_of_mem hy
      simpa using e2 j hj hj
    · left
      refine ⟨by omega, ?_⟩
      unfold hasB
      rw [List.any_eq_true]
      exact ⟨order[j], List.getElem_mem hj, by simpa using e2⟩
  by_cases hk0 : kd x0 = 0
  · -- it sits
    obtain ⟨ks, hs⟩ := sit_ev l (by omega) c w h now'
    have hsit : sitR l ⟨c, w, h, now'⟩ = if hasB l c = true ∨ l.length ≠ 6 then (withP l ⟨c, w, h, now'⟩, 0) else ([], 7) := by
      unfold sitR
      rw [if_pos ⟨hI.right, hmay w h hw.1 hw.2 hh.1 hh.2⟩, if_neg (by rw [hbusy]; decide)]
    rw [hsit] at hs
    by_cases hok : hasB l c = true ∨ l.length ≠ 6
    · rw [if_pos hok] at hs
      have hput := hI.put h1 h2 ⟨c, w, h, now'⟩ (hmay w h hw.1 hw.2 hh.1 hh.2) rfl hok
      obtain ⟨kj, hj⟩ := act_j2 acts n i l (withP l ⟨c, w, h, now'⟩) order now' c w h x0 x1 x2 x3 x4 (by omega) (by rw [if_pos (by omega)]; exact hput) hn
      refine ⟨ks + kj + 1, fun k hk => ?_⟩
      obtain ⟨k, rfl⟩ : ∃ j, k = j + 1 := ⟨k - 1, by omega⟩
      have q1 := hs k (by omega)
      have q2 := hj k (by omega)
      dsimp only at q1 q2 ⊢
      rw [backseatlaw16_SizeActive.l1, if_neg (by omega)]
      show (if kd x0 = 0 then _ else _) = _
      rw [if_pos hk0, q1, Option.bind_some, if_pos rfl]
      exact q2
    · rw [if_neg hok] at hs
      have hb1 : b = -1 := by
        rcases hhas with h | h
        · exact absurd (.inl h.2) hok
        · exact h.1
      have hl6 : l.length = 6 := by
        by_cases e : l.length = 6
        · exact e
        · exact absurd (.inr e) hok
      have ho6 : order.length = 6 := by rw [← hI.perm.length_eq]; exact hl6
      obtain ⟨kj, hj⟩ := act_j2e acts n i l ([] : List S48) order now' c w h 7 (by decide) x0 x1 x2 x3 x4 (hI.next (by omega) h2) hn
      refine ⟨ks + kj + 1, fun k hk => ?_⟩
      obtain ⟨k, rfl⟩ : ∃ j, k = j + 1 := ⟨k - 1, by omega⟩
      have q1 := hs k (by omega)
      have q2 := hj k (by omega)
      dsimp only at q1 q2 ⊢
      rw [backseatlaw16_SizeActive.l1, if_neg (by omega)]
      show (if kd x0 = 0 then _ else _) = _
      rw [if_pos hk0, q1, Option.bind_some, if_neg (by decide), if_neg (by omega), if_neg (by omega)]
      exact q2
  · by_cases hk1 : kd x0 = 1
    · -- it is active
      obtain ⟨ks, hs⟩ := touch_ev l (by omega) c now'
      have htt : touchR l c now' = if hasB l c = true then (touchP l c now', 0) else ([], 5) := by
        unfold touchR
        rw [if_pos ⟨hI.right, by have := hI.now0; omega, by omega⟩]
        split
        · rw [if_neg (by rw [hbusy]; decide)]
        · rfl
      rw [htt] at hs
      rcases hb with ⟨e1, e2⟩ | ⟨j, hj, _, e1, e2⟩
      · have hf : hasB l c = false := by
          rcases hhas with h | h
          · omega
          · exact h.2
        rw [if_neg (by rw [hf]; decide)] at hs
        obtain ⟨kj, hj⟩ := act_j2e acts n i l ([] : List S48) order now' c w h 5 (by decide) x0 x1 x2 x3 x4 (hI.next (by omega) h2) hn
        refine ⟨ks + kj + 1, fun k hk => ?_⟩
        obtain ⟨k, rfl⟩ : ∃ j, k = j + 1 := ⟨k - 1, by omega⟩
        have q1 := hs k (by omega)
        have q2 := hj k (by omega)
        dsimp only at q1 q2 ⊢
        rw [backseatlaw16_SizeActive.l1, if_neg (by omega)]
        show (if kd x0 = 0 then _ else _) = _
        rw [if_neg hk0]
        show (if kd x0 = 1 then _ else _) = _
        rw [if_pos hk1, q1, Option.bind_some, if_neg (by simp [e1]), if_neg (by omega)]
        exact q2
      · have ht : hasB l c = true := by
          rcases hhas with h | h
          · exact h.2
          · omega
        rw [if_pos ht] at hs
        have hyl := hI.right.2.1 order[j] (hI.perm.mem_iff.2 (List.getElem_mem hj))
        have htw := hI.touch c now' order[j] (List.getElem_mem hj) e2
        have hput := hI.put h1 h2 ⟨c, order[j].f1, order[j].f2, now'⟩ (hmay _ _ hyl.2.2.1 hyl.2.2.2.1 hyl.2.2.2.2.1 hyl.2.2.2.2.2.1) rfl (.inl ht)
        rw [show (⟨order[j].f0, order[j].f1, order[j].f2, now'⟩ : S48) = ⟨c, order[j].f1, order[j].f2, now'⟩ by rw [e2]] at htw
        rw [← htw] at hput
        obtain ⟨kj, hj2⟩ := act_j2 acts n i l (touchP l c now') order now' c order[j].f1 order[j].f2 x0 x1 x2 x3 x4 (by omega) (by rw [if_pos (by omega)]; exact hput) hn
        refine ⟨ks + kj + 1, fun k hk => ?_⟩
        obtain ⟨k, rfl⟩ : ∃ j, k = j + 1 := ⟨k - 1, by omega⟩
        have q1 := hs k (by omega)
        have q2 := hj2 k (by omega)
        dsimp only at q1 q2 ⊢
        subst e1
        rw [backseatlaw16_SizeActive.l1, if_neg (by omega)]
        show (if kd x0 = 0 then _ else _) = _
        rw [if_neg hk0]
        show (if kd x0 = 1 then _ else _) = _
        rw [if_pos hk1, q1, Option.bind_some, if_neg (by simp), if_pos (by omega), if_pos (by omega), if_pos (by omega), rd48 order j hj]
        exact q2
    · -- it goes
      have hk2 : ¬ kd x0 < 2 := by unfold kd at hk0 hk1 ⊢; omega
      obtain ⟨ks, hs⟩ := leave_ev l (by omega) c
      have hll : leaveR l c = if hasB l c = true then (lessP l c, 0) else ([], 5) := by unfold leaveR; rw [if_pos hI.right]
      rw [hll] at hs
      rcases hhas with ⟨hb0, hf⟩ | ⟨hb0, hf⟩
      · rw [if_pos hf] at hs
        obtain ⟨kj, hj⟩ := act_j2 acts n i l (lessP l c) order now' c w h x0 x1 x2 x3 x4 (by omega) (by rw [if_neg hk2]; exact hI.less (by omega) h2 c) hn
        refine ⟨ks + kj + 1, fun k hk => ?_⟩
        obtain ⟨k, rfl⟩ : ∃ j, k = j + 1 := ⟨k - 1, by omega⟩
        have q1 := hs k (by omega)
        have q2 := hj k (by omega)
        dsimp only at q1 q2 ⊢
        rw [backseatlaw16_SizeActive.l1, if_neg (by omega)]
        show (if kd x0 = 0 then _ else _) = _
        rw [if_neg hk0]
        show (if kd x0 = 1 then _ else _) = _
        rw [if_neg hk1, q1, Option.bind_some, if_neg (by simp [hb0])]
        exact q2
      · rw [if_neg (by rw [hf]; decide)] at hs
        obtain ⟨kj, hj⟩ := act_j2e acts n i l ([] : List S48) order now' c w h 5 (by decide) x0 x1 x2 x3 x4 (hI.next (by omega) h2) hn
        refine ⟨ks + kj + 1, fun k hk => ?_⟩
        obtain ⟨k, rfl⟩ : ∃ j, k = j + 1 := ⟨k - 1, by omega⟩
        have q1 := hs k (by omega)
        have q2 := hj k (by omega)
        dsimp only at q1 q2 ⊢
        rw [backseatlaw16_SizeActive.l1, if_neg (by omega)]
        show (if kd x0 = 0 then _ else _) = _
        rw [if_neg hk0]
        show (if kd x0 = 1 then _ else _) = _
        rw [if_neg hk1, q1, Option.bind_some, if_neg (by simp [hb0])]
        exact q2
theorem act_l0 (acts : List S71) (d : Nat) : ∀ (i : Nat) (l order : List S48) (now : Int), i + d = acts.length → Inv l order now → now ≤ 9 * i → i ≤ 40 → Ev (fun k => backseatlaw16_SizeActive.l0 k l order now acts (acts.length : Int) (i : Int)) true := by
  induction d with
  | zero =>
    intro i l order now hi hI hnow h40
    obtain ⟨ka, ha⟩ := alive_ev
    refine ⟨ka + 1, fun k hk => ?_⟩
    obtain ⟨k, rfl⟩ : ∃ j, k = j + 1 := ⟨k - 1, by omega⟩
    have q := ha k (by omega)
    dsimp only at q ⊢
    rw [backseatlaw16_SizeActive.l0, if_neg (by omega), q]; rfl
  | succ d ih =>
    intro i l order now hi hI hnow h40
    by_cases he : i = 40
    · obtain ⟨ka, ha⟩ := alive_ev
      refine ⟨ka + 1, fun k hk => ?_⟩
      obtain ⟨k, rfl⟩ : ∃ j, k = j + 1 := ⟨k - 1, by omega⟩
      have q := ha k (by omega)
      dsimp only at q ⊢
      rw [backseatlaw16_SizeActive.l0, if_pos (by omega), if_pos (by omega), if_pos (by omega), if_pos (by omega), q]; rfl
    · have hil : i < acts.length := by omega
      obtain ⟨x, hx⟩ : ∃ x, x = rd_T71 acts (i : Int) := ⟨_, rfl⟩
      have m4 := mod_in x.f4 9 (by decide) (by decide)
      have m1 := mod_in x.f1 9 (by decide) (by decide)
      have m2 := mod_in x.f2 80 (by decide) (by decide)
      have m3 := mod_in x.f3 49 (by decide) (by decide)
      have hnow0 := hI.now0
      have hr := act_round acts (acts.length : Int) (i : Int) l order now (wrap64 (now + (wrap64 (1 + (Int.tmod (wrap64 ((Int.tmod x.f4 9) + 9)) 9))))) (wrap64 (1 + (Int.tmod (wrap64 ((Int.tmod x.f1 9) + 9)) 9))) (wrap64 (1 + (Int.tmod (wrap64 ((Int.tmod x.f2 80) + 80)) 80))) (wrap64 (2 + (Int.tmod (wrap64 ((Int.tmod x.f3 49) + 49)) 49))) x.f0 x.f1 x.f2 x.f3 x.f4 hI
        (by rw [w64 (i := 1 + _) (by omega) (by omega), w64 (by omega) (by omega)]; omega) (by rw [w64 (i := 1 + _) (by omega) (by omega), w64 (by omega) (by omega)]; omega) (by rw [w64 (by omega) (by omega)]; omega) (by rw [w64 (by omega) (by omega)]; omega) (by rw [w64 (by omega) (by omega)]; omega)
        (fun l' o' hI' => by
          rw [w64 (i := (i : Int) + 1) (by omega) (by omega), show (i : Int) + 1 = ((i + 1 : Nat) : Int) by omega]
          refine ih (i + 1) l' o' _ (by omega) hI' ?_ (by omega)
          rw [w64 (i := 1 + _) (by omega) (by omega), w64 (by omega) (by omega)]; omega)
      refine Ev.succ hr (fun k => ?_)
      rw [backseatlaw16_SizeActive.l0, if_pos (by omega), if_pos (by omega), if_pos (by omega), if_neg (by omega), ← hx]
theorem SizeActive (acts : List S71) : ∃ k, backseatlaw16_SizeActive.f k acts = some true := by
  obtain ⟨k, h⟩ := act_l0 acts acts.length 0 [] [] 0 (by omega) ⟨⟨by simp, fun _ h => absurd h List.not_mem_nil, List.Pairwise.nil⟩, List.Perm.nil, List.Pairwise.nil, fun _ h => absurd h List.not_mem_nil, by decide, by decide⟩ (by decide) (by decide)
  exact ⟨k, h k (Nat.le_refl _)⟩
end Go.Proofs.Ytplngfammfdemaa
