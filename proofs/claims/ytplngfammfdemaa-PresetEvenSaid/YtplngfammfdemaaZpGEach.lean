-- A copy of the text YtplngfammfdemaaGEach with what this claim does not reach left out (prune.py, a program of this project).
import Derived.Test.YtplngfammfdemaaZpGColl
namespace Go.Proofs.Ytplngfammfdemaa
open Go.RowKit Go.Shelf Go.Proofs.YtplngfammfdemaaW.PrintWords Go.Proofs.YtplngfammfdemaaW.PrintLast Go.Proofs.YtplngfammfdemaaW.PrintMore
set_option linter.unusedVariables false
set_option linter.unusedSimpArgs false
def chunkAt (m : Nat) (l : List Int) (k : Nat) : List Int := (l.drop (k * m)).take m
def chunksN (m K : Nat) (l : List Int) : List (List Int) := (List.range K).map (chunkAt m l)
def startsN (m K : Nat) : List Nat := (List.range K).map (fun k => k * m)
theorem startsN_succ (m k : Nat) : startsN m (k + 1) = startsN m k ++ [k * m] := by simp [startsN, List.range_succ]
theorem startsN_length (m k : Nat) : (startsN m k).length = k := by simp [startsN]
theorem chunkAt_length (m : Nat) (l : List Int) (k : Nat) : (chunkAt m l k).length = Nat.min m (l.length - k * m) := by simp [chunkAt]
theorem abides_below' {α : Type} {B : Nat} {J : List α → World → Prop} (h : AbidesFrom B J) : ∀ s W W', J s W → Below W.heap.size W W' → J s W' := fun s W W' hs hb => h s W W' none hs (grown_of_below hb none) (fun r e => by cases e)
theorem chunk_stops (Bs Bn : Nat) (ad : Addr) (len c m K : Nat) (w0 : World) (hm : 1 ≤ m) (hm2 : m < 1000) (hlen : len < 1000000000000) (hc : len ≤ c) (hBs : w0.cell? ⟨Bs, 0, none⟩ = some (.slice (some ad) len c)) (hBn : w0.cell? ⟨Bn, 0, none⟩ = some (.int .i64 m)) (hK : len ≤ K * m) (hK2 : ∀ k, k < K → k * m < len) :
    SeqStopsK Fence.wide 4 Try.prog 122 #[.pointer (some ⟨Bs, 0, none⟩), .pointer (some ⟨Bn, 0, none⟩)] (fun i : Nat => #[.slice (some (ad.add i)) (Nat.min m (len - i)) (Nat.min m (len - i))]) (Below w0.heap.size) (fun ys => ys = startsN m K) (fun _ => True) K w0 := by
  intro l J Jx W hW hJ hJx hY h0
  refine (chunk1_in 4 (by omega) l Bs Bn ad len c m w0 hm hm2 hlen hc hBs hBn (fun i W => ∃ k, i = k * m ∧ k ≤ K ∧ J (startsN m k) W) (fun i W => ∃ pre, Jx pre W) ?_ ?_ W hW ⟨0, by simp, Nat.zero_le _, h0⟩).mono ?_
  · rintro i W1 W2 ⟨k, rfl, hk, h⟩ hb
    exact ⟨k, rfl, hk, abides_below' hJ _ _ _ h hb⟩
  · rintro i W1 ⟨k, rfl, hk, h⟩ hlt
    have hkK : k < K := by
      rcases Nat.lt_or_ge k K with h1 | h1
      · exact h1
      · have : k = K := by omega
        subst this
        omega
    obtain ⟨fn, tmps, assign, body, hy, hR⟩ := hY (startsN m k) (k * m) W1 h (by rw [startsN_length]; exact hkK)
    refine ⟨fn, tmps, assign, body, hy, hR.mono ?_⟩
    rintro e W2 (⟨rfl, hj, hb⟩ | ⟨rfl, hx⟩)
    · exact .inl ⟨rfl, ⟨k + 1, by rw [Nat.add_mul, Nat.one_mul], hkK, by rw [startsN_succ]; exact hj⟩, hb⟩
    · exact .inr ⟨rfl, _, hx⟩
  · rintro e W' ⟨he, ⟨i, hi, k, rfl, hk, h⟩ | ⟨i, pre, h⟩⟩
    · have : k = K := by
        rcases Nat.lt_or_ge k K with h1 | h1
        · have := hK2 k h1; omega
        · omega
      subst this
      exact ⟨he, .inl ⟨_, rfl, h⟩⟩
    · exact ⟨he, .inr ⟨pre, trivial, h⟩⟩
theorem chunk_any (A : Option Addr) (n c m : Nat) (hm : 1 ≤ m) (w : World) : Calls Try.prog 94 #[.slice A n c, .int .i64 (m : Int)] w fun e w' => e = .returned (.func (.func 122) #[] #[.pointer (some ⟨w.heap.size, 0, none⟩), .pointer (some ⟨w.heap.size + 1, 0, none⟩)]) ∧ w' = (w.alloc (.cells #[.slice A n c] 22)).alloc (.cells #[.int .i64 (m : Int)] 3) := by
  have h1 : decide ((m : Int) < 1) = false := decide_eq_false (by omega)
  go_enter Try.func94, Try.ntmps94
  go_wp2
  go_ret
  exact ⟨rfl, rfl⟩
abbrev kRows : Kd (List Int) := Kd.slice 3 (Kd.int .i64)
set_option maxHeartbeats 1000000 in
theorem collect_any (Bs Bn : Nat) (ad : Addr) (c m K : Nat) (l : List Int) (w : World) (hm : 1 ≤ m) (hm2 : m < 1000) (hlen : l.length < 1000000000000) (hc : l.length ≤ c) (hBs : w.cell? ⟨Bs, 0, none⟩ = some (.slice (some ad) l.length c)) (hBn : w.cell? ⟨Bn, 0, none⟩ = some (.int .i64 m)) (hC : Kd.C (Kd.int .i64) w (some ad) l.length l) (hK : l.length ≤ K * m) (hK2 : ∀ k, k < K → k * m < l.length) (hK3 : K ≤ 1000) :
    Calls Try.prog 93 #[.func (.func 122) #[] #[.pointer (some ⟨Bs, 0, none⟩), .pointer (some ⟨Bn, 0, none⟩)]] w fun e w' => ∃ A' c', e = .returned (.slice A' (chunksN m K l).length c') ∧ (chunksN m K l).length ≤ c' ∧ Kd.C kRows w' A' (chunksN m K l).length (chunksN m K l) ∧ Below w.heap.size w w' := by
  have HS := Aside0.mk (callsIn_wide.1 (appendSeq_in (fun i : Nat => some (ad.add i)) (fun i => Nat.min m (l.length - i)) (fun i => Nat.min m (l.length - i)) 5 (by omega) 122 #[.pointer (some ⟨Bs, 0, none⟩), .pointer (some ⟨Bn, 0, none⟩)] (enters_of Try.func122 (by kernel_rfl) rfl) (startsN m K) (fun _ => True) K hK3 w w (Below.refl _ _) (chunk_stops Bs Bn ad l.length c m K w hm hm2 hlen hc hBs hBn hK hK2)))
  have HC := Aside0.mk hC
  have HK2 := Aside0.mk hK2
  clear hBs hBn hC hK hK2 hK3 hlen hc
  go_enter Try.func93, Try.ntmps93
  go_wp2_with (go_at_call 121; refine HS.out.mono ?_; rintro e w1 ⟨v, rfl, ho, hb⟩; have HO := Aside0.mk ho; have HB := Aside0.mk hb; clear ho hb)
  go_ret
  have hn : (chunksN m K l).length = K := by simp [chunksN]
  have ho := HO.out
  rw [startsN_length] at ho
  have hreps : Reps (kRows.K w1) 1 (chunksN m K l) ((startsN m K).map (fun x => Value.slice (some (ad.add x)) (Nat.min m (l.length - x)) (Nat.min m (l.length - x)))) := by
    refine ⟨by simp [chunksN, startsN], fun j p hj => ?_⟩
    have hjK : j < K := by have := (List.getElem?_eq_some_iff.1 hj).1; rw [hn] at this; exact this
    have hp : p = chunkAt m l j := by
      have := hj
      simp only [chunksN, List.getElem?_map, List.getElem?_range hjK, Option.map_some, Option.some.injEq] at this
      exact this.symm
    subst hp
    refine ⟨some (ad.add (j * m)), Nat.min m (l.length - j * m), ?_, by rw [chunkAt_length]; exact Nat.le_refl _, ?_⟩
    · rw [Nat.mul_one, List.drop_eq_getElem_cons (by simp [startsN]; exact hjK)]
      simp only [List.take_succ_cons, List.take_zero, List.getElem_map, startsN, List.getElem_range]
      rw [chunkAt_length]
    · have h1 := Kd.C_drop (c := l.length + 1) (Kd.C_below HC.out HB.out) (m := j * m) (by have := HK2.out j hjK; omega) (by omega)
      rw [if_neg (by have := HK2.out j hjK; omega)] at h1
      have h2 := Kd.C_take h1 (m := Nat.min m (l.length - j * m)) (by rw [List.length_drop]; exact Nat.min_le_right _ _)
      have e : (l.drop (j * m)).take (Nat.min m (l.length - j * m)) = chunkAt m l j := by
        unfold chunkAt
        have : (l.drop (j * m)).length = l.length - j * m := List.length_drop
        rw [← this]
        simp only [Nat.min_def]
        split
        · rfl
        · rename_i h
          rw [List.take_length, List.take_of_length_le (by omega)]
      rw [e] at h2
      simpa [Kd.int, Kd.scalar, Addr.add] using h2
  obtain ⟨A', c', rfl, hr⟩ := own_reads_row ho hreps hn
  have hcap : K ≤ c' := by
    rcases ho.2 with ⟨h1, h2⟩ | ⟨g, cap, cur, h1, _, _, h2, _⟩
    · cases h1; omega
    · cases h1; exact h2
  refine ⟨A', c', by rw [hn]; rfl, by rw [hn]; exact hcap, ?_, HB.out⟩
  rw [hn]
  exact hr
theorem each_any (ad : Addr) (c : Nat) (l : List Int) (w : World) (hlen : l.length ≤ 1000) (h0 : 1 ≤ l.length) (hc : l.length ≤ c) (hC : Kd.C (Kd.int .i64) w (some ad) l.length l) :
    Calls Try.prog 90 #[.slice (some ad) l.length c] w fun e w' => ∃ A' c', e = .returned (.slice A' (chunksN 1 l.length l).length c') ∧ (chunksN 1 l.length l).length ≤ c' ∧ Kd.C kRows w' A' (chunksN 1 l.length l).length (chunksN 1 l.length l) ∧ Below w.heap.size w w' := by
  have HB1 := Aside0.mk (below_alloc (below_alloc (Below.refl w.heap.size w) (.cells #[.slice (some ad) l.length c] 22)) (.cells #[.int .i64 ((1 : Nat) : Int)] 3))
  have b1 := blk_alloc (blk_new w (.cells #[.slice (some ad) l.length c] 22)) (.cells #[.int .i64 ((1 : Nat) : Int)] 3)
  have b2 := blk_new (w.alloc (.cells #[.slice (some ad) l.length c] 22)) (.cells #[.int .i64 ((1 : Nat) : Int)] 3)
  rw [World.size_alloc] at b2
  have HS := Aside0.mk (collect_any w.heap.size (w.heap.size + 1) ad c 1 l.length l _ (Nat.le_refl _) (by omega) (by omega) hc ((blk_cell b1 0).trans rfl) ((blk_cell b2 0).trans rfl) (Kd.C_below hC HB1.out) (by omega) (fun k hk => by omega) hlen)
  have HC := Aside0.mk (chunk_any (some ad) l.length c 1 (Nat.le_refl _) w)
  clear b1 b2 hC hlen h0 hc
  generalize chunksN 1 l.length l = L at HS ⊢
  go_enter Try.func90, Try.ntmps90
  go_wp2_with (first | (go_at_call 94; refine HC.out.mono ?_; rintro e w1 ⟨rfl, rfl⟩) | (go_at_call 93; refine HS.out.mono ?_; rintro e w2 ⟨A', c', rfl, hc', hr, hb⟩; have HR := Aside0.mk hr; have HX := Aside0.mk hc'; have HB := Aside0.mk hb; clear hr hc' hb))
  go_ret
  exact ⟨A', c', rfl, HX.out, HR.out, below_step HB1.out HB.out⟩
end Go.Proofs.Ytplngfammfdemaa
