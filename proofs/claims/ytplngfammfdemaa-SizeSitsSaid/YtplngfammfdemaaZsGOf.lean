-- A copy of the text YtplngfammfdemaaGOf with what this claim does not reach left out (prune.py, a program of this project).
import Derived.Test.YtplngfammfdemaaZsGLatest
import Derived.Test.YtplngfammfdemaaZsGCont
import Derived.Deep.QuietTactic
import Derived.BigQuiet
namespace Go.Proofs.Ytplngfammfdemaa
open Go.RowKit Go.Shelf Go.Proofs.YtplngfammfdemaaW.PrintWords Go.Proofs.YtplngfammfdemaaW.PrintLast Go.Proofs.YtplngfammfdemaaW.PrintMore P
set_option linter.unusedVariables false
set_option linter.unusedSimpArgs false
theorem some_any (A : Option Addr) (n c : Nat) (f0 : Value) (w : World) : Calls Try.prog 63 #[.slice A n c, .func (.func 64) #[] #[f0]] w fun e w' => e = .returned (.func (.func 100) #[] #[.pointer (some ⟨w.heap.size, 0, none⟩), .pointer (some ⟨w.heap.size + 1, 0, none⟩)]) ∧ w' = (w.alloc (.cells #[.slice A n c] 45)).alloc (.cells #[.func (.func 64) #[] #[f0]] 99) := by
  go_enter Try.func63, Try.ntmps63
  go_wp2
  go_ret
  exact ⟨rfl, rfl⟩
set_option maxRecDepth 100000 in
theorem of_closure (B : Nat) (A : Option Addr) (c0 : Nat) (l : List Int) (c : Int) (w : World) (hB : w.cell? ⟨B, 0, none⟩ = some (.slice A l.length c0)) (hC : Kd.C (Kd.int .i64) w A l.length l) (hlen : l.length < 1000000000000000000) :
    Calls Try.prog 64 #[.int .i64 c, .pointer (some ⟨B, 0, none⟩)] w fun e w' => e = .returned (.bool (decide (c ∈ l))) ∧ w = w' := by
  have HC := Aside0.mk (contains_any A c0 l c w hC hlen)
  generalize decide (c ∈ l) = z at HC ⊢
  clear hC hlen
  go_enter Try.func64, Try.ntmps64
  go_wp2_with (go_at_call 51; refine HC.out.mono ?_; rintro e w1 ⟨rfl, rfl⟩)
  go_ret
  exact ⟨rfl, rfl⟩
theorem some_stops (Bs Bo Bc : Nat) (A : Option Addr) (c : Nat) (zs : List S48) (A1 : Option Addr) (c1 : Nat) (l1 : List Int) (w0 : World) (hlen : zs.length < 1000000000000000000) (hlen1 : l1.length < 1000000000000000000) (hBs : w0.cell? ⟨Bs, 0, none⟩ = some (.slice A zs.length c)) (hC : Kd.C k48 w0 A zs.length zs)
    (hBo : w0.cell? ⟨Bo, 0, none⟩ = some (.func (.func 64) #[] #[.pointer (some ⟨Bc, 0, none⟩)])) (hBc : w0.cell? ⟨Bc, 0, none⟩ = some (.slice A1 l1.length c1)) (hC1 : Kd.C (Kd.int .i64) w0 A1 l1.length l1) :
    SeqStopsK Fence.wide 4 Try.prog 100 #[.pointer (some ⟨Bs, 0, none⟩), .pointer (some ⟨Bo, 0, none⟩)] (fun x : S48 => #[seatW x]) (Below w0.heap.size) (fun ys => ys = zs.filter (fun x => decide (x.f0 ∈ l1))) (fun _ => True) zs.length w0 := by
  intro l J Jx W hW hJ hJx hY h0
  refine (some1_in 4 (by omega) 0 #[.pointer (some ⟨Bc, 0, none⟩)] (fun x => decide (x ∈ l1)) l Bs Bo A c zs w0 hlen hBs hBo hC J Jx ?_ (abides_below hJ) hY W hW h0).mono ?_
  · intro W' hW' x
    refine callsIn_wide.2 ((of_closure Bc A1 c1 l1 x W' ((hW'.cell (World.block_lt_of_cell? w0 _ hBc)).trans hBc) (Kd.C_below hC1 hW') hlen1).mono ?_)
    rintro e w1 ⟨rfl, rfl⟩
    exact ⟨rfl, Below.refl _ _⟩
  · rintro e W' ⟨he, h | ⟨pre, h⟩⟩
    · exact ⟨he, .inl h⟩
    · exact ⟨he, .inr ⟨pre, trivial, h⟩⟩
def ofR (l : List S48) (c : List Int) : S48 × Int := latR (l.filter (fun x => decide (x.f0 ∈ c)))
def size_Of.f (l : List S48) (c : List Int) : Option (Int × Int × Int) :=
  if l.length < 1000000000000000000 ∧ c.length < 1000000000000000000 then (if RightP l then (if (ofR l c).2 = 0 then some ((ofR l c).1.f1, wrap64 ((ofR l c).1.f2 - 1), 0) else some (0, 0, (ofR l c).2)) else some (0, 0, 1)) else none
set_option maxHeartbeats 4000000 in
set_option maxRecDepth 100000 in
theorem size_Of.calls (A0 : Option Addr) (c0 : Nat) (l0 : List S48) (A1 : Option Addr) (c1 : Nat) (l1 : List Int) (r1 r2 r3 : Int) (w : World) (hr0 : Kd.C k48 w A0 l0.length l0) (hc0 : l0.length ≤ c0) (hr1 : Kd.C (Kd.int .i64) w A1 l1.length l1) (hc1 : l1.length ≤ c1) (h : size_Of.f l0 l1 = some (r1, r2, r3)) :
    Calls Try.prog 22 #[.slice A0 l0.length c0, .slice A1 l1.length c1] w fun e w' => e = .returned (.tuple #[.int .i64 r1, .int .i64 r2, .int .i64 r3]) ∧ Below w.heap.size w w' := by
  unfold size_Of.f at h
  by_cases hl2 : l0.length < 1000000000000000000 ∧ l1.length < 1000000000000000000
  · rw [if_pos hl2] at h
    obtain ⟨hl, hl1⟩ := hl2
    obtain ⟨k, hk⟩ := (right_ev l0 hl).ex
    have hu48 := Try.underlying48
    have HR0 := Aside0.mk hr0
    have HC0 := Aside0.mk hc0
    have HR1 := Aside0.mk hr1
    have HL := Aside0.mk hl
    have HL1 := Aside0.mk hl1
    clear hr0 hc0 hl hr1 hc1 hl1
    have HB := Aside0.mk ((Below.refl w.heap.size w).alloc (Nat.le_refl _) (.cells #[.slice A1 l1.length c1] 22))
    have BK := Aside0.mk (blk_new w (.cells #[.slice A1 l1.length c1] 22))
    by_cases hp : RightP l0
    · rw [if_pos hp] at h
      rw [decide_eq_true hp] at hk
      have HK := Aside0.mk hk
      have hx : latR (l0.filter (fun x => decide (x.f0 ∈ l1))) = (⟨(ofR l0 l1).1.f0, (ofR l0 l1).1.f1, (ofR l0 l1).1.f2, (ofR l0 l1).1.f3⟩, (ofR l0 l1).2) := rfl
      generalize (ofR l0 l1).1.f0 = a at hx h
      generalize (ofR l0 l1).1.f1 = b at hx h
      generalize (ofR l0 l1).1.f2 = c at hx h
      generalize (ofR l0 l1).1.f3 = d at hx h
      generalize (ofR l0 l1).2 = r at hx h
      have HX := Aside0.mk hx
      clear hx hk hp
      by_cases hr : r = 0
      · rw [if_pos hr] at h
        subst hr
        simp only [Option.some.injEq, Prod.mk.injEq] at h
        obtain ⟨rfl, rfl, rfl⟩ := h
        go_enter Try.func22, Try.ntmps22
        go_wp2_with (first | (go_at_call 32; refine (size_Right.calls k _ _ l0 true _ (Kd.C_below HR0.out HB.out) HC0.out HK.out).mono ?_; rintro e w1 ⟨rfl, hb⟩; replace BK := Aside0.mk (blk_below BK.out hb); replace HB := Aside0.mk (below_step HB.out hb); clear hb) | (go_at_call 63; refine (some_any _ _ _ _ _).mono ?_; rintro e w2 ⟨rfl, rfl⟩))
        have HV1 := Aside0.mk (blk_alloc (blk_new w1 (.cells #[.slice A0 l0.length c0] 45)) (.cells #[.func (.func 64) #[] #[.pointer (some ⟨w.heap.size, 0, none⟩)]] 99))
        have hv2 := blk_new (w1.alloc (.cells #[.slice A0 l0.length c0] 45)) (.cells #[.func (.func 64) #[] #[.pointer (some ⟨w.heap.size, 0, none⟩)]] 99)
        rw [World.size_alloc] at hv2
        have HV2 := Aside0.mk hv2
        have BK2 := Aside0.mk (blk_alloc (blk_alloc BK.out (.cells #[.slice A0 l0.length c0] 45)) (.cells #[.func (.func 64) #[] #[.pointer (some ⟨w.heap.size, 0, none⟩)]] 99))
        have HB2 := Aside0.mk (below_alloc (below_alloc HB.out (.cells #[.slice A0 l0.length c0] 45)) (.cells #[.func (.func 64) #[] #[.pointer (some ⟨w.heap.size, 0, none⟩)]] 99))
        clear hv2
        refine (callsIn_wide.1 (latest_in 5 (by omega) 100 #[.pointer (some ⟨w1.heap.size, 0, none⟩), .pointer (some ⟨w1.heap.size + 1, 0, none⟩)] _ Try.func100 (enters_of Try.func100 (by kernel_rfl) rfl) _ l0.length _ _ (Below.refl _ _) (some_stops w1.heap.size (w1.heap.size + 1) w.heap.size A0 c0 l0 A1 c1 l1 _ HL.out HL1.out ((blk_cell HV1.out 0).trans rfl) (Kd.C_below HR0.out HB2.out) ((blk_cell HV2.out 0).trans rfl) ((blk_cell BK2.out 0).trans rfl) (Kd.C_below HR1.out HB2.out)))).mono ?_
        rintro e w3 ⟨rfl, hb⟩
        have HB3 := Aside0.mk (below_alloc (below_step HB2.out hb) (.cells #[.int .i64 a, .int .i64 b, .int .i64 c, .int .i64 d] 48))
        clear hb HV1 HV2 BK2 HB2 HB BK
        rw [HX.out]
        unfold seatW
        go_wp2
        have hz := blk_new w3 (.cells #[.int .i64 a, .int .i64 b, .int .i64 c, .int .i64 d] 48)
        generalize hW4 : w3.alloc (.cells #[.int .i64 a, .int .i64 b, .int .i64 c, .int .i64 d] 48) = w4 at hz HB3 ⊢
        clear hW4
        have z1 : w4.cell? ⟨w3.heap.size, 1, none⟩ = some (.int .i64 b) := (blk_cell hz 1).trans rfl
        have z2 : w4.cell? ⟨w3.heap.size, 2, none⟩ = some (.int .i64 c) := (blk_cell hz 2).trans rfl
        clear hz
        go_quiet (fail)
        all_goals (go_wp2; try (go_ret3; exact ⟨rfl, pw_below_drewN HB3.out _⟩))
      · rw [if_neg hr] at h
        simp only [Option.some.injEq, Prod.mk.injEq] at h
        obtain ⟨rfl, rfl, rfl⟩ := h
        have hr' : (r == 0) = false := beq_eq_false_iff_ne.2 hr
        have hr2 : (r != 0) = true := bne_iff_ne.2 hr
        clear hr
        go_enter Try.func22, Try.ntmps22
        go_wp2_with (first | (go_at_call 32; refine (size_Right.calls k _ _ l0 true _ (Kd.C_below HR0.out HB.out) HC0.out HK.out).mono ?_; rintro e w1 ⟨rfl, hb⟩; replace BK := Aside0.mk (blk_below BK.out hb); replace HB := Aside0.mk (below_step HB.out hb); clear hb) | (go_at_call 63; refine (some_any _ _ _ _ _).mono ?_; rintro e w2 ⟨rfl, rfl⟩))
        have HV1 := Aside0.mk (blk_alloc (blk_new w1 (.cells #[.slice A0 l0.length c0] 45)) (.cells #[.func (.func 64) #[] #[.pointer (some ⟨w.heap.size, 0, none⟩)]] 99))
        have hv2 := blk_new (w1.alloc (.cells #[.slice A0 l0.length c0] 45)) (.cells #[.func (.func 64) #[] #[.pointer (some ⟨w.heap.size, 0, none⟩)]] 99)
        rw [World.size_alloc] at hv2
        have HV2 := Aside0.mk hv2
        have BK2 := Aside0.mk (blk_alloc (blk_alloc BK.out (.cells #[.slice A0 l0.length c0] 45)) (.cells #[.func (.func 64) #[] #[.pointer (some ⟨w.heap.size, 0, none⟩)]] 99))
        have HB2 := Aside0.mk (below_alloc (below_alloc HB.out (.cells #[.slice A0 l0.length c0] 45)) (.cells #[.func (.func 64) #[] #[.pointer (some ⟨w.heap.size, 0, none⟩)]] 99))
        clear hv2
        refine (callsIn_wide.1 (latest_in 5 (by omega) 100 #[.pointer (some ⟨w1.heap.size, 0, none⟩), .pointer (some ⟨w1.heap.size + 1, 0, none⟩)] _ Try.func100 (enters_of Try.func100 (by kernel_rfl) rfl) _ l0.length _ _ (Below.refl _ _) (some_stops w1.heap.size (w1.heap.size + 1) w.heap.size A0 c0 l0 A1 c1 l1 _ HL.out HL1.out ((blk_cell HV1.out 0).trans rfl) (Kd.C_below HR0.out HB2.out) ((blk_cell HV2.out 0).trans rfl) ((blk_cell BK2.out 0).trans rfl) (Kd.C_below HR1.out HB2.out)))).mono ?_
        rintro e w3 ⟨rfl, hb⟩
        have HB3 := Aside0.mk (below_alloc (below_step HB2.out hb) (.cells #[.int .i64 a, .int .i64 b, .int .i64 c, .int .i64 d] 48))
        clear hb HV1 HV2 BK2 HB2 HB BK
        rw [HX.out]
        unfold seatW
        go_wp2
        go_ret3
        exact ⟨rfl, HB3.out⟩
    · rw [if_neg hp] at h
      rw [decide_eq_false hp] at hk
      have HK := Aside0.mk hk
      simp only [Option.some.injEq, Prod.mk.injEq] at h
      obtain ⟨rfl, rfl, rfl⟩ := h
      clear hk hp
      go_enter Try.func22, Try.ntmps22
      go_wp2_with (first | (go_at_call 32; refine (size_Right.calls k _ _ l0 false _ (Kd.C_below HR0.out HB.out) HC0.out HK.out).mono ?_; rintro e w1 ⟨rfl, hb⟩; replace BK := Aside0.mk (blk_below BK.out hb); replace HB := Aside0.mk (below_step HB.out hb); clear hb))
      go_ret3
      exact ⟨rfl, HB.out⟩
  · rw [if_neg hl2] at h; cases h
end Go.Proofs.Ytplngfammfdemaa
