-- Copies of the texts YtbnpcnpdeinacaaDoorMUtf, YtbnpcnpdeinacaaDoorGWidth with what this claim does not reach left out (prune.py, a program of this project).
import Derived.Test.YtbnpcnpdeinacaaDoorZkGText
import Derived.Lib.ValidLaws
import Derived.Lib.TrimUEq
import Derived.Lib.DecodeNEq
import Derived.Test.YtbnpcnpdeinacaaDoorZkShelf
import Derived.Test.YtbnpcnpdeinacaaDoorZkPx0
import Derived.WalkKit
import Derived.Deep.QuietTactic
import Derived.BigQuiet
import Derived.Lib.Hide
section
namespace Go.Proofs.YtbnpcnpdeinacaaDoor
open Go.Lib
/-- Byte j of a list. -/
def g (l : List UInt8) (j : Nat) : Nat := (l.getD j 0).toNat
theorem g_lt (l : List UInt8) (j : Nat) : g l j < 256 := (l.getD j 0).toNat_lt
def szN (b : Nat) : Nat := firstT b % 8
def loN (b : Nat) : Nat := accLo (firstT b / 16)
def hiN (b : Nat) : Nat := accHi (firstT b / 16)
def val2 (l : List UInt8) : Int := (g l 0 % 32 * 64 + g l 1 % 64 : Nat)
def val3 (l : List UInt8) : Int := (g l 0 % 16 * 4096 + g l 1 % 64 * 64 + g l 2 % 64 : Nat)
def val4 (l : List UInt8) : Int := (g l 0 % 8 * 262144 + g l 1 % 64 * 4096 + g l 2 % 64 * 64 + g l 3 % 64 : Nat)
/-- The letter, how many bytes, the error: of a list of bytes. -/
def firstL (l : List UInt8) : Int × Int × Int :=
  if l.length = 0 then (0, 0, 2)
  else if g l 0 < 128 then ((g l 0 : Int), 1, 0)
  else if szN (g l 0) = 1 then (0, 1, 4)
  else if l.length = 1 then (0, 0, 2)
  else if g l 1 < loN (g l 0) ∨ hiN (g l 0) < g l 1 then (0, 1, 4)
  else if szN (g l 0) = 2 then (val2 l, 2, 0)
  else if l.length = 2 then (0, 0, 2)
  else if g l 2 < 128 ∨ 191 < g l 2 then (0, 2, 4)
  else if szN (g l 0) = 3 then (val3 l, 3, 0)
  else if l.length = 3 then (0, 0, 2)
  else if g l 3 < 128 ∨ 191 < g l 3 then (0, 3, 4)
  else (val4 l, 4, 0)
/-- The classes of first bytes. -/
theorem lead_cases (b : Nat) (hb : b < 256) :
    (b < 128 ∧ firstT b = 240) ∨ ((128 ≤ b ∧ b < 194 ∨ 245 ≤ b) ∧ firstT b = 241) ∨ (194 ≤ b ∧ b < 224 ∧ firstT b = 2) ∨ (b = 224 ∧ firstT b = 19) ∨
    ((225 ≤ b ∧ b < 237 ∨ 238 ≤ b ∧ b < 240) ∧ firstT b = 3) ∨ (b = 237 ∧ firstT b = 35) ∨ (b = 240 ∧ firstT b = 52) ∨ (241 ≤ b ∧ b < 244 ∧ firstT b = 4) ∨ (b = 244 ∧ firstT b = 68) := by
  unfold firstT
  repeat' split
  all_goals omega
theorem get!_getD (s : ByteArray) (i : Nat) : s.get! i = s.data.toList.getD i 0 := by
  cases s with
  | mk d =>
    show d[i]! = d.toList.getD i 0
    by_cases h : i < d.size
    · rw [getElem!_pos d i h, List.getD_eq_getElem?_getD, List.getElem?_eq_getElem (by simpa using h)]; simp
    · rw [getElem!_neg d i h, List.getD_eq_getElem?_getD, List.getElem?_eq_none (by simpa using h)]; rfl
def fullL (l : List UInt8) : Bool := fullN l.length (g l 0) (g l 1) (g l 2)
theorem fullB_L (s : ByteArray) : fullB s = fullL s.data.toList := by
  unfold fullB fullL g
  rw [get!_getD, get!_getD, get!_getD]
  rfl
theorem toList_extract (s : ByteArray) (i j : Nat) : (s.extract i j).data.toList = (s.data.toList.drop i).take (j - i) := by
  rw [ByteArray.data_extract, Array.toList_extract]
theorem decodeGo_L (s : ByteArray) (h : s.size ≠ 0) : decodeGo s = decodeN s.data.toList.length (g s.data.toList 0) (g s.data.toList 1) (g s.data.toList 2) (g s.data.toList 3) := by
  unfold decodeGo
  rw [if_neg h]
  have := decodeL_drop s 0
  rw [List.drop_zero] at this
  rw [← this, decodeL_N]
  rfl
theorem g_take (l : List UInt8) (n j : Nat) (h : j < n) : g (l.take n) j = g l j := by
  unfold g
  rw [List.getD_eq_getElem?_getD, List.getD_eq_getElem?_getD, List.getElem?_take, if_pos h]
end Go.Proofs.YtbnpcnpdeinacaaDoor
end
section
namespace Go.Proofs.YtbnpcnpdeinacaaDoor
open Go.RowKit Go.Lib Go.Proofs.YtbnpcnpdeinacaaDoorW.PrintWords Go.Proofs.YtbnpcnpdeinacaaDoorW.PrintLast
/-- Is a number in a span? -/
def inSpan (r : Int) (x : Int × Int) : Bool := decide (x.1 ≤ r) && decide (r ≤ x.2)
def spanCells (l : List (Int × Int)) : List Value := l.flatMap fun x => [.int .i32 x.1, .int .i32 x.2]
set_option maxHeartbeats 1000000 in
theorem span_any (r lo hi : Int) (bx : Nat) (w : World) (hc : w.cell? ⟨bx, 0, none⟩ = some (.int .i32 r)) (hb : bx < w.heap.size) :
    Calls Tryd.prog 56 #[.agg #[.int .i32 lo, .int .i32 hi], .pointer (some ⟨bx, 0, none⟩)] w fun e w' => e = .returned (.bool (inSpan r (lo, hi))) ∧ Below w.heap.size w w' := by
  have hn : bx ≠ w.heap.size := by omega
  by_cases h1 : lo ≤ r
  · by_cases h2 : r ≤ hi
    · have e : inSpan r (lo, hi) = true := by simp [inSpan, h1, h2]
      rw [e]
      have d1 : decide (r ≥ lo) = true := by simp [h1]
      have d2 : decide (r ≤ hi) = true := by simp [h2]
      clear e
      go_enter Tryd.func56, Tryd.ntmps56
      go_wp2
      go_ret
      exact ⟨rfl, Below.alloc (Below.refl _ _) (Nat.le_refl _) _⟩
    · have e : inSpan r (lo, hi) = false := by simp [inSpan, h2]
      rw [e]
      have d1 : decide (r ≥ lo) = true := by simp [h1]
      have d2 : decide (r ≤ hi) = false := decide_eq_false h2
      clear e
      go_enter Tryd.func56, Tryd.ntmps56
      go_wp2
      go_ret
      exact ⟨rfl, Below.alloc (Below.refl _ _) (Nat.le_refl _) _⟩
  · have e : inSpan r (lo, hi) = false := by simp [inSpan, h1]
    rw [e]
    have d1 : decide (r ≥ lo) = false := decide_eq_false h1
    clear e
    go_enter Tryd.func56, Tryd.ntmps56
    go_wp2
    go_ret
    exact ⟨rfl, Below.alloc (Below.refl _ _) (Nat.le_refl _) _⟩
/-- The place of the first span that a number is in. -/
def spanIdx (r : Int) : List (Int × Int) → Nat → Int
  | [], _ => -1
  | x :: l, k => if inSpan r x = true then (k : Int) else spanIdx r l (k + 1)
theorem spanIdx_step (r : Int) (l : List (Int × Int)) (k : Nat) (h : k < l.length) : spanIdx r (l.drop k) k = if inSpan r (l.getD k (0, 0)) = true then (k : Int) else spanIdx r (l.drop (k + 1)) (k + 1) := by
  rw [List.drop_eq_getElem_cons h]
  simp [spanIdx, List.getD_eq_getElem?_getD, List.getElem?_eq_getElem h]
set_option maxHeartbeats 2000000 in
theorem idx_any (r : Int) (l : List (Int × Int)) (g bx : Nat) (w : World) (hl : l.length < 1000)
    (hcs : ∀ k, k < l.length → w.cell? ⟨g, k * 2, none⟩ = some (.int .i32 (l.getD k (0, 0)).1) ∧ w.cell? ⟨g, k * 2 + 1, none⟩ = some (.int .i32 (l.getD k (0, 0)).2))
    (hg : g < w.heap.size) (hc : w.cell? ⟨bx, 0, none⟩ = some (.int .i32 r)) (hb : bx < w.heap.size) :
    Calls Tryd.prog 61 #[.slice (some ⟨g, 0, none⟩) l.length l.length, .func (.func 56) #[] #[.pointer (some ⟨bx, 0, none⟩)]] w fun e w' => e = .returned (.int .i64 (spanIdx r l 0)) ∧ Below w.heap.size w w' := by
  have HC := Lib.hid hcs
  clear hcs
  have HB := Lib.hid hc
  clear hc
  go_enter Tryd.func61, Tryd.ntmps61
  go_wp2
  go_loopw [8] (fun i wr => ∃ k : Nat, k ≤ l.length ∧ i = .int .i64 k ∧ Hid (spanIdx r l 0 = spanIdx r (l.drop k) k) ∧ Below w.heap.size w wr) (fun i _ => l.length - (RowKit.intOf i).toNat)
  case atStart => exact ⟨0, Nat.zero_le _, rfl, Lib.hid (by simp), Below.refl _ _⟩
  case round =>
    obtain ⟨k, hk, rfl, HS, hbw⟩ := hrel
    by_cases hlt : k < l.length
    · have hst := spanIdx_step r l k hlt
      have c0 := (hbw.cell (p := ⟨g, k * 2, none⟩) hg).trans (HC.out k hlt).1
      have c1 := (hbw.cell (p := ⟨g, k * 2 + 1, none⟩) hg).trans (HC.out k hlt).2
      have cb := (hbw.cell (p := ⟨bx, 0, none⟩) hb).trans HB.out
      have hlz : (k : Int) < (l.length : Int) := by omega
      have cc := fun W (h1 : W.cell? ⟨bx, 0, none⟩ = some (.int .i32 r)) h2 => span_any r (l.getD k (0, 0)).1 (l.getD k (0, 0)).2 bx W h1 h2
      have hbs := Nat.lt_of_lt_of_le hb hbw.size
      generalize l.getD k (0, 0) = x at c0 c1 hst cc
      obtain ⟨lo, hi⟩ := x
      cases hin : inSpan r (lo, hi) with
      | true =>
        rw [if_pos hin] at hst
        have HR := Lib.hid (HS.out.trans hst)
        have CC := Lib.hid (cc wr cb hbs)
        simp only [hin] at CC
        clear hin hst cc HS
        go_wp2_with (go_at_call 56; refine CC.out.mono ?_; rintro e w' ⟨rfl, hb'⟩)
        go_ret
        exact ⟨by rw [HR.out]; rfl, hbw.trans (hb'.mono hbw.size)⟩
      | false =>
        rw [if_neg (by rw [hin]; exact Bool.false_ne_true)] at hst
        have HR := Lib.hid (HS.out.trans hst)
        have CC := Lib.hid (cc wr cb hbs)
        simp only [hin] at CC
        clear hin hst cc HS
        go_wp2_with (go_at_call 56; refine CC.out.mono ?_; rintro e w' ⟨rfl, hb'⟩)
        go_roundw
        case rel => exact ⟨k + 1, by omega, by go_num, HR, hbw.trans (hb'.mono hbw.size)⟩
        case measure => simp [RowKit.intOf]; omega
    · have hkl : k = l.length := by omega
      have HR : Hid (spanIdx r l 0 = -1) := Lib.hid (by rw [HS.out, hkl, List.drop_length]; rfl)
      have hge : ¬ ((k : Int) < (l.length : Int)) := by omega
      clear hkl HS
      go_wp2
      go_ret
      exact ⟨by rw [HR.out]; rfl, hbw⟩
theorem spanIdx_any (r : Int) : ∀ (l : List (Int × Int)) (k : Nat), decide (0 ≤ spanIdx r l k) = l.any (inSpan r)
  | [], k => by simp [spanIdx]
  | x :: l, k => by
    unfold spanIdx
    by_cases h : inSpan r x = true
    · rw [if_pos h]; simp [h]
    · rw [if_neg h]; simp [h, spanIdx_any r l (k + 1)]
set_option maxHeartbeats 1000000 in
theorem contains_any (r : Int) (l : List (Int × Int)) (g bx : Nat) (w : World) (hl : l.length < 1000)
    (hcs : ∀ k, k < l.length → w.cell? ⟨g, k * 2, none⟩ = some (.int .i32 (l.getD k (0, 0)).1) ∧ w.cell? ⟨g, k * 2 + 1, none⟩ = some (.int .i32 (l.getD k (0, 0)).2))
    (hg : g < w.heap.size) (hc : w.cell? ⟨bx, 0, none⟩ = some (.int .i32 r)) (hb : bx < w.heap.size) :
    Calls Tryd.prog 55 #[.slice (some ⟨g, 0, none⟩) l.length l.length, .func (.func 56) #[] #[.pointer (some ⟨bx, 0, none⟩)]] w fun e w' => e = .returned (.bool (l.any (inSpan r))) ∧ Below w.heap.size w w' := by
  have c := Lib.hid (idx_any r l g bx w hl hcs hg hc hb)
  have HD := Lib.hid (spanIdx_any r l 0)
  clear hcs hc
  generalize spanIdx r l 0 = q at c HD
  generalize l.any (inSpan r) = b at HD ⊢
  go_enter Tryd.func55, Tryd.ntmps55
  go_wp2_with (go_at_call 61; refine c.out.mono ?_; rintro e w' ⟨rfl, hb'⟩)
  go_ret
  exact ⟨by rw [← HD.out]; rfl, hb'⟩
set_option maxHeartbeats 1000000 in
theorem within_any (r : Int) (l : List (Int × Int)) (g : Nat) (w : World) (hl : l.length < 1000)
    (hcs : ∀ k, k < l.length → w.cell? ⟨g, k * 2, none⟩ = some (.int .i32 (l.getD k (0, 0)).1) ∧ w.cell? ⟨g, k * 2 + 1, none⟩ = some (.int .i32 (l.getD k (0, 0)).2))
    (hg : g < w.heap.size) :
    Calls Tryd.prog 41 #[.slice (some ⟨g, 0, none⟩) l.length l.length, .int .i32 r] w fun e w' => e = .returned (.bool (l.any (inSpan r))) ∧ Below w.heap.size w w' := by
  have hA : Below w.heap.size w (w.alloc (.cells #[.int .i32 r] 21)) := Below.alloc (Below.refl _ _) (Nat.le_refl _) _
  have c := Lib.hid (contains_any r l g w.heap.size (w.alloc (.cells #[.int .i32 r] 21)) hl (fun k hk => ⟨(hA.cell (p := ⟨g, k * 2, none⟩) hg).trans (hcs k hk).1, (hA.cell (p := ⟨g, k * 2 + 1, none⟩) hg).trans (hcs k hk).2⟩) (by simp; omega) (by go_simp) (by simp))
  clear hcs
  generalize l.any (inSpan r) = b at c ⊢
  go_enter Tryd.func41, Tryd.ntmps41
  go_wp2_with (go_at_call 55; refine c.out.mono ?_; rintro e w' ⟨rfl, hb'⟩)
  go_ret
  exact ⟨rfl, hA.trans (hb'.mono hA.size)⟩
def zeroL : List (Int × Int) := [(768, 879), (8203, 8205), (65024, 65039)]
def wideL : List (Int × Int) := [(4352, 4447), (12353, 19903), (19968, 40959), (44032, 55203), (63744, 64255), (65281, 65376), (127744, 129791), (131072, 262141)]
set_option maxHeartbeats 1000000 in
theorem zero_any (w : World) : Calls Tryd.prog 42 #[] w fun e w' => e = .returned (.slice (some ⟨w.heap.size, 0, none⟩) 3 3) ∧ w' = w.alloc (.cells (spanCells zeroL).toArray 98) := by
  go_enter Tryd.func42, Tryd.ntmps42
  go_wp2
  go_ret
  exact ⟨rfl, rfl⟩
set_option maxHeartbeats 1000000 in
theorem wide_any (w : World) : Calls Tryd.prog 43 #[] w fun e w' => e = .returned (.slice (some ⟨w.heap.size, 0, none⟩) 8 8) ∧ w' = w.alloc (.cells (spanCells wideL).toArray 98) := by
  go_enter Tryd.func43, Tryd.ntmps43
  go_wp2
  go_ret
  exact ⟨rfl, rfl⟩
theorem zero_cells (w : World) : ∀ k, k < zeroL.length → (w.alloc (.cells (spanCells zeroL).toArray 98)).cell? ⟨w.heap.size, k * 2, none⟩ = some (.int .i32 (zeroL.getD k (0, 0)).1) ∧ (w.alloc (.cells (spanCells zeroL).toArray 98)).cell? ⟨w.heap.size, k * 2 + 1, none⟩ = some (.int .i32 (zeroL.getD k (0, 0)).2) := by
  intro k hk
  rw [blk_cell (blk_new w _), blk_cell (blk_new w _)]
  have hk' : k < 3 := hk
  match k, hk' with
  | 0, _ => exact ⟨rfl, rfl⟩
  | 1, _ => exact ⟨rfl, rfl⟩
  | 2, _ => exact ⟨rfl, rfl⟩
theorem wide_cells (w : World) : ∀ k, k < wideL.length → (w.alloc (.cells (spanCells wideL).toArray 98)).cell? ⟨w.heap.size, k * 2, none⟩ = some (.int .i32 (wideL.getD k (0, 0)).1) ∧ (w.alloc (.cells (spanCells wideL).toArray 98)).cell? ⟨w.heap.size, k * 2 + 1, none⟩ = some (.int .i32 (wideL.getD k (0, 0)).2) := by
  intro k hk
  rw [blk_cell (blk_new w _), blk_cell (blk_new w _)]
  have hk' : k < 8 := hk
  match k, hk' with
  | 0, _ => exact ⟨rfl, rfl⟩
  | 1, _ => exact ⟨rfl, rfl⟩
  | 2, _ => exact ⟨rfl, rfl⟩
  | 3, _ => exact ⟨rfl, rfl⟩
  | 4, _ => exact ⟨rfl, rfl⟩
  | 5, _ => exact ⟨rfl, rfl⟩
  | 6, _ => exact ⟨rfl, rfl⟩
  | 7, _ => exact ⟨rfl, rfl⟩
theorem in_zero (r : Int) (w : World) : Calls Tryd.prog 41 #[.slice (some ⟨w.heap.size, 0, none⟩) 3 3, .int .i32 r] (w.alloc (.cells (spanCells zeroL).toArray 98)) fun e w' => e = .returned (.bool (zeroL.any (inSpan r))) ∧ Below w.heap.size w w' := by
  have hA : Below w.heap.size w (w.alloc (.cells (spanCells zeroL).toArray 98)) := Below.alloc (Below.refl _ _) (Nat.le_refl _) _
  exact (within_any r zeroL w.heap.size _ (by decide) (zero_cells w) (by simp)).mono fun e w' ⟨h1, h2⟩ => ⟨h1, hA.trans (h2.mono hA.size)⟩
theorem in_wide (r : Int) (w : World) : Calls Tryd.prog 41 #[.slice (some ⟨w.heap.size, 0, none⟩) 8 8, .int .i32 r] (w.alloc (.cells (spanCells wideL).toArray 98)) fun e w' => e = .returned (.bool (wideL.any (inSpan r))) ∧ Below w.heap.size w w' := by
  have hA : Below w.heap.size w (w.alloc (.cells (spanCells wideL).toArray 98)) := Below.alloc (Below.refl _ _) (Nat.le_refl _) _
  exact (within_any r wideL w.heap.size _ (by decide) (wide_cells w) (by simp)).mono fun e w' ⟨h1, h2⟩ => ⟨h1, hA.trans (h2.mono hA.size)⟩
/-- How many cells a number takes. -/
def widthZ (r : Int) : Int :=
  if Lib.validRune r = false ∨ r < 32 ∨ (127 ≤ r ∧ r < 160) then -1 else if zeroL.any (inSpan r) = true then 0 else if wideL.any (inSpan r) = true then 2 else 1
def utf_Width.f (a0 : Int) : Option Int := some (widthZ a0)
set_option maxHeartbeats 4000000 in
theorem width_any (r : Int) (w : World) : Calls Tryd.prog 26 #[.int .i32 r] w fun e w' => e = .returned (.int .i64 (widthZ r)) ∧ Below w.heap.size w w' := by
  have cv := Lib.hid (Tryd.utf8_ValidRune r)
  cases hv : Lib.validRune r with
  | false =>
    have hr : widthZ r = -1 := by simp [widthZ, hv]
    simp only [hv] at cv
    rw [hr]
    clear hr hv
    go_enter Tryd.func26, Tryd.ntmps26
    go_wp2_with (go_at_call 40; refine (cv.out _).mono ?_; rintro e w' ⟨rfl, rfl⟩)
    go_ret
    exact ⟨rfl, Below.refl _ _⟩
  | true =>
    simp only [hv] at cv
    by_cases h32 : r < 32
    · have hr : widthZ r = -1 := by simp [widthZ, h32]
      rw [hr]
      have d1 : decide (r < 32) = true := decide_eq_true h32
      clear hr hv
      go_enter Tryd.func26, Tryd.ntmps26
      go_wp2_with (go_at_call 40; refine (cv.out _).mono ?_; rintro e w' ⟨rfl, rfl⟩)
      go_ret
      exact ⟨rfl, Below.refl _ _⟩
    · have d1 : decide (r < 32) = false := decide_eq_false h32
      by_cases hc : 127 ≤ r ∧ r < 160
      · have hr : widthZ r = -1 := by simp [widthZ, hc]
        rw [hr]
        have d2 : decide (r ≥ 127) = true := decide_eq_true hc.1
        have d3 : decide (r < 160) = true := decide_eq_true hc.2
        clear hr hv
        go_enter Tryd.func26, Tryd.ntmps26
        go_wp2_with (go_at_call 40; refine (cv.out _).mono ?_; rintro e w' ⟨rfl, rfl⟩)
        go_ret
        exact ⟨rfl, Below.refl _ _⟩
      · have cz := fun W => Lib.hid (in_zero r W)
        have cw := fun W => Lib.hid (in_wide r W)
        have hw : widthZ r = if zeroL.any (inSpan r) = true then 0 else if wideL.any (inSpan r) = true then 2 else 1 := by
          unfold widthZ; rw [if_neg]; rw [hv]; simp only [Bool.true_eq_false, false_or]; omega
        rw [hw]
        clear hw hv
        generalize zeroL.any (inSpan r) = bz at cz ⊢
        generalize wideL.any (inSpan r) = bw at cw ⊢
        have d2 : (decide (r ≥ 127) = true ∧ decide (r < 160) = false) ∨ decide (r ≥ 127) = false := by
          by_cases h : 127 ≤ r
          · exact .inl ⟨decide_eq_true h, decide_eq_false (by omega)⟩
          · exact .inr (decide_eq_false (by omega))
        have CZ := Lib.hid cz
        have CW := Lib.hid cw
        clear cz cw hc
        cases bz with
        | true =>
          rcases d2 with ⟨d2, d3⟩ | d2 <;>
          (go_enter Tryd.func26, Tryd.ntmps26
           go_wp2_with (first | (go_at_call 40; refine (cv.out _).mono ?_; rintro e w' ⟨rfl, rfl⟩) | (go_at_call 42; refine (zero_any _).mono ?_; rintro e w' ⟨rfl, rfl⟩) | (go_at_call 41; refine ((CZ.out _).out).mono ?_; rintro e w' ⟨rfl, hb'⟩))
           go_ret
           exact ⟨rfl, hb'⟩)
        | false =>
          cases bw with
          | true =>
            rcases d2 with ⟨d2, d3⟩ | d2 <;>
            (go_enter Tryd.func26, Tryd.ntmps26
             go_wp2_with (first | (go_at_call 40; refine (cv.out _).mono ?_; rintro e w' ⟨rfl, rfl⟩) | (go_at_call 42; refine (zero_any _).mono ?_; rintro e w' ⟨rfl, rfl⟩) | (go_at_call 43; refine (wide_any _).mono ?_; rintro e w' ⟨rfl, rfl⟩) | (go_at_call 41; first | (with_reducible refine ((CZ.out _).out).mono ?_; rintro e w1 ⟨rfl, hb1⟩) | (with_reducible refine ((CW.out _).out).mono ?_; rintro e w2 ⟨rfl, hb2⟩)))
             go_ret
             exact ⟨rfl, hb1.trans (hb2.mono hb1.size)⟩)
          | false =>
            rcases d2 with ⟨d2, d3⟩ | d2 <;>
            (go_enter Tryd.func26, Tryd.ntmps26
             go_wp2_with (first | (go_at_call 40; refine (cv.out _).mono ?_; rintro e w' ⟨rfl, rfl⟩) | (go_at_call 42; refine (zero_any _).mono ?_; rintro e w' ⟨rfl, rfl⟩) | (go_at_call 43; refine (wide_any _).mono ?_; rintro e w' ⟨rfl, rfl⟩) | (go_at_call 41; first | (with_reducible refine ((CZ.out _).out).mono ?_; rintro e w1 ⟨rfl, hb1⟩) | (with_reducible refine ((CW.out _).out).mono ?_; rintro e w2 ⟨rfl, hb2⟩)))
             go_ret
             exact ⟨rfl, hb1.trans (hb2.mono hb1.size)⟩)
theorem utf_Width.calls (a0 : Int) (r : Int) (w : World) (h : utf_Width.f a0 = some r) :
    Calls Tryd.prog 26 #[.int .i32 a0] w fun e w' => e = .returned (.int .i64 r) ∧ Below w.heap.size w w' := by
  obtain rfl := Option.some.inj h
  exact width_any a0 w
end Go.Proofs.YtbnpcnpdeinacaaDoor
end
