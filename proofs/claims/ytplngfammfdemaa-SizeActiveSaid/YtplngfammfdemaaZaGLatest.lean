-- A copy of the text YtplngfammfdemaaGLatest with what this claim does not reach left out (prune.py, a program of this project).
import Derived.Test.YtplngfammfdemaaZaGLat
import Derived.Test.YtplngfammfdemaaZaMSz
namespace Go.Proofs.Ytplngfammfdemaa
open Go.RowKit Go.Shelf Go.Proofs.YtplngfammfdemaaW.PrintWords Go.Proofs.YtplngfammfdemaaW.PrintLast Go.Proofs.YtplngfammfdemaaW.PrintMore P
set_option linter.unusedVariables false
set_option linter.unusedSimpArgs false
theorem values_any (A : Option Addr) (n c : Nat) (w : World) : Calls Try.prog 62 #[.slice A n c] w fun e w' => e = .returned (.func (.func 99) #[] #[.pointer (some ⟨w.heap.size, 0, none⟩)]) ∧ w' = w.alloc (.cells #[.slice A n c] 45) := by
  go_enter Try.func62, Try.ntmps62
  go_wp2
  go_ret
  exact ⟨rfl, rfl⟩
theorem abides_below {B : Nat} {J : List S48 → World → Prop} (h : AbidesFrom B J) : ∀ s W W', J s W → Below W.heap.size W W' → J s W' := fun s W W' hs hb => h s W W' none hs (grown_of_below hb none) (fun r e => by cases e)
theorem values_stops (Bs : Nat) (A : Option Addr) (c : Nat) (zs : List S48) (w0 : World) (hlen : zs.length < 1000000000000000000) (hBs : w0.cell? ⟨Bs, 0, none⟩ = some (.slice A zs.length c)) (hC : Kd.C k48 w0 A zs.length zs) :
    SeqStopsK Fence.wide 4 Try.prog 99 #[.pointer (some ⟨Bs, 0, none⟩)] (fun x : S48 => #[seatW x]) (Below w0.heap.size) (fun ys => ys = zs) (fun _ => True) zs.length w0 := by
  intro l J Jx W hW hJ hJx hY h0
  refine (values1_in Fence.wide 4 trivial rfl (by omega) l Bs A c zs w0 hlen hBs hC J Jx (abides_below hJ) hY W hW h0).mono ?_
  rintro e W' ⟨he, h | ⟨pre, h⟩⟩
  · exact ⟨he, .inl h⟩
  · exact ⟨he, .inr ⟨pre, trivial, h⟩⟩
def size_Latest.f (l : List S48) : Option (Int × Int × Int × Int × Int) :=
  if l.length < 1000000000000000000 then (if RightP l then some ((latR l).1.f0, (latR l).1.f1, (latR l).1.f2, (latR l).1.f3, (latR l).2) else some (0, 0, 0, 0, 1)) else none
set_option maxHeartbeats 4000000 in
set_option maxRecDepth 100000 in
theorem size_Latest.calls (A0 : Option Addr) (c0 : Nat) (l0 : List S48) (r1 r2 r3 r4 r5 : Int) (w : World) (hr0 : Kd.C k48 w A0 l0.length l0) (hc0 : l0.length ≤ c0) (h : size_Latest.f l0 = some (r1, r2, r3, r4, r5)) :
    Calls Try.prog 21 #[.slice A0 l0.length c0] w fun e w' => e = .returned (.tuple #[.agg #[.int .i64 r1, .int .i64 r2, .int .i64 r3, .int .i64 r4], .int .i64 r5]) ∧ Below w.heap.size w w' := by
  unfold size_Latest.f at h
  by_cases hl : l0.length < 1000000000000000000
  · rw [if_pos hl] at h
    obtain ⟨k, hk⟩ := (right_ev l0 hl).ex
    have hu48 := Try.underlying48
    have HR0 := Aside0.mk hr0
    have HC0 := Aside0.mk hc0
    have HL := Aside0.mk hl
    clear hr0 hc0 hl
    by_cases hp : RightP l0
    · rw [if_pos hp] at h
      rw [decide_eq_true hp] at hk
      have HK := Aside0.mk hk
      simp only [Option.some.injEq, Prod.mk.injEq] at h
      obtain ⟨rfl, rfl, rfl, rfl, rfl⟩ := h
      have hx : latR l0 = (⟨(latR l0).1.f0, (latR l0).1.f1, (latR l0).1.f2, (latR l0).1.f3⟩, (latR l0).2) := rfl
      generalize (latR l0).1.f0 = a at hx ⊢
      generalize (latR l0).1.f1 = b at hx ⊢
      generalize (latR l0).1.f2 = c at hx ⊢
      generalize (latR l0).1.f3 = d at hx ⊢
      generalize (latR l0).2 = r at hx ⊢
      have HX := Aside0.mk hx
      clear hx hk hp
      have HB := Aside0.mk ((Below.refl w.heap.size w).alloc (Nat.le_refl _) (.cells #[.int .i64 0, .int .i64 0, .int .i64 0, .int .i64 0] 48))
      have BK := Aside0.mk (blk_new w (.cells #[.int .i64 0, .int .i64 0, .int .i64 0, .int .i64 0] 48))
      go_enter Try.func21, Try.ntmps21
      go_wp2_with (first | (go_at_call 32; refine (size_Right.calls k _ _ l0 true _ (Kd.C_below HR0.out HB.out) HC0.out HK.out).mono ?_; rintro e w1 ⟨rfl, hb⟩; replace BK := Aside0.mk (blk_below BK.out hb); replace HB := Aside0.mk (below_step HB.out hb); clear hb) | (go_at_call 62; refine (values_any _ _ _ _).mono ?_; rintro e w2 ⟨rfl, rfl⟩; have HV := Aside0.mk (blk_new w1 (.cells #[.slice A0 l0.length c0] 45)); have BK2 := Aside0.mk (blk_alloc BK.out (.cells #[.slice A0 l0.length c0] 45)); have HB2 := Aside0.mk (below_alloc HB.out (.cells #[.slice A0 l0.length c0] 45))))
      refine (callsIn_wide.1 (latest_in 5 (by omega) 99 #[.pointer (some ⟨w1.heap.size, 0, none⟩)] _ Try.func99 (enters_of Try.func99 (by kernel_rfl) rfl) l0 l0.length _ _ (Below.refl _ _) (values_stops w1.heap.size A0 c0 l0 _ HL.out ((blk_cell HV.out 0).trans rfl) (Kd.C_below HR0.out HB2.out)))).mono ?_
      rintro e w3 ⟨rfl, hb⟩
      have HB3 := Aside0.mk (below_step HB2.out hb)
      have hbk := blk_below BK2.out hb
      have BK3 := Aside0.mk hbk
      have x0 : w3.cell? ⟨w.heap.size, 0, none⟩ = some (.int .i64 0) := (blk_cell hbk 0).trans rfl
      have x1 : w3.cell? ⟨w.heap.size, 1, none⟩ = some (.int .i64 0) := (blk_cell hbk 1).trans rfl
      have x2 : w3.cell? ⟨w.heap.size, 2, none⟩ = some (.int .i64 0) := (blk_cell hbk 2).trans rfl
      have x3 : w3.cell? ⟨w.heap.size, 3, none⟩ = some (.int .i64 0) := (blk_cell hbk 3).trans rfl
      have u0 := blk_frozen hbk 0
      have u1 := blk_frozen hbk 1
      have u2 := blk_frozen hbk 2
      have u3 := blk_frozen hbk 3
      clear hbk hb HV BK2 HB2 HB BK
      rw [HX.out]
      unfold seatW
      go_wp2
      exact bodyPost_ret (results_ct (P := Try.prog) rfl _ _ w.heap.size 48 (seatC ⟨a, b, c, d⟩) (0, 0) _ rfl (sput4 (x := ⟨0, 0, 0, 0⟩) BK3.out a b c d) Try.underlying48 rfl (by kernel_rfl)) rfl ⟨rfl, below4 HB3.out (Nat.le_refl _) _ _ _ _⟩
    · rw [if_neg hp] at h
      rw [decide_eq_false hp] at hk
      have HK := Aside0.mk hk
      simp only [Option.some.injEq, Prod.mk.injEq] at h
      obtain ⟨rfl, rfl, rfl, rfl, rfl⟩ := h
      clear hk hp
      have HB := Aside0.mk ((Below.refl w.heap.size w).alloc (Nat.le_refl _) (.cells #[.int .i64 0, .int .i64 0, .int .i64 0, .int .i64 0] 48))
      have BK := Aside0.mk (blk_new w (.cells #[.int .i64 0, .int .i64 0, .int .i64 0, .int .i64 0] 48))
      go_enter Try.func21, Try.ntmps21
      go_wp2_with (first | (go_at_call 32; refine (size_Right.calls k _ _ l0 false _ (Kd.C_below HR0.out HB.out) HC0.out HK.out).mono ?_; rintro e w1 ⟨rfl, hb⟩; have hbk := blk_below BK.out hb; replace BK := Aside0.mk hbk; replace HB := Aside0.mk (below_step HB.out hb); clear hb; have x0 : w1.cell? ⟨w.heap.size, 0, none⟩ = some (.int .i64 0) := (blk_cell hbk 0).trans rfl; have x1 : w1.cell? ⟨w.heap.size, 1, none⟩ = some (.int .i64 0) := (blk_cell hbk 1).trans rfl; have x2 : w1.cell? ⟨w.heap.size, 2, none⟩ = some (.int .i64 0) := (blk_cell hbk 2).trans rfl; have x3 : w1.cell? ⟨w.heap.size, 3, none⟩ = some (.int .i64 0) := (blk_cell hbk 3).trans rfl; have u0 := blk_frozen hbk 0; have u1 := blk_frozen hbk 1; have u2 := blk_frozen hbk 2; have u3 := blk_frozen hbk 3; clear hbk))
      exact bodyPost_ret (results_ct (P := Try.prog) rfl _ _ w.heap.size 48 (seatC ⟨0, 0, 0, 0⟩) (0, 0) _ rfl (sput4 (x := ⟨0, 0, 0, 0⟩) BK.out 0 0 0 0) Try.underlying48 rfl (by kernel_rfl)) rfl ⟨rfl, below4 HB.out (Nat.le_refl _) _ _ _ _⟩
  · rw [if_neg hl] at h; cases h
end Go.Proofs.Ytplngfammfdemaa
