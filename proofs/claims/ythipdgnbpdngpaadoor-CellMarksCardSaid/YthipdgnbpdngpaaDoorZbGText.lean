-- A copy of the text YthipdgnbpdngpaaDoorGText with what this claim does not reach left out (prune.py, a program of this project).
import Derived.Test.YthipdgnbpdngpaaDoorZbGFull
import Derived.Lib.Hide
namespace Go.Proofs.YthipdgnbpdngpaaDoor
open Go.RowKit Go.Lib Go.Proofs.YthipdgnbpdngpaaDoorW.PrintWords Go.Proofs.YthipdgnbpdngpaaDoorW.PrintLast
def utf8_FullRuneInString.f (a0 : ByteArray) : Option Bool := some (fullB a0)
theorem utf8_FullRuneInString.calls (a0 : ByteArray) (r : Bool) (w : World) (h : utf8_FullRuneInString.f a0 = some r) (hT : TabsAt w := by first | with_reducible assumption | exact tabs_here (by with_reducible assumption) (by repeat (with_reducible first | assumption | apply below_alloc | apply pw_below_drewN | apply below_drew1 | (refine Below.setCell ?_ ?_ _) | exact Aside0.out (by assumption)))) :
    Calls Tryd.prog 40 #[.string a0] w fun e w' => e = .returned (.bool r) ∧ Below w.heap.size w w' := by
  obtain rfl := Option.some.inj h
  exact full_any a0 w hT
def utf8_DecodeRuneInString.f (a0 : ByteArray) : Option (Int × Int) := some (((Lib.decodeGo a0).1 : Int), ((Lib.decodeGo a0).2 : Int))
theorem utf8_DecodeRuneInString.calls (a0 : ByteArray) (r1 : Int) (r2 : Int) (w : World) (h : utf8_DecodeRuneInString.f a0 = some (r1, r2)) (hT : TabsAt w := by first | with_reducible assumption | exact tabs_here (by with_reducible assumption) (by repeat (with_reducible first | assumption | apply below_alloc | apply pw_below_drewN | apply below_drew1 | (refine Below.setCell ?_ ?_ _) | exact Aside0.out (by assumption)))) :
    Calls Tryd.prog 41 #[.string a0] w fun e w' => e = .returned (.tuple #[.int .i32 r1, .int .i64 r2]) ∧ Below w.heap.size w w' := by
  have h' := Option.some.inj h
  simp only [Prod.mk.injEq] at h'
  obtain ⟨rfl, rfl⟩ := h'
  exact Tryd.utf8_DecodeRuneInString a0 w hT
def utf8_ValidString.f (a0 : ByteArray) : Option Bool := if a0.size ≤ 9223372036854775807 then some (Lib.validD a0.data.toList) else none
def utf_Text.f (a0 : Int) : Option (ByteArray × Int) := if Lib.validRune a0 = true then some (Utf8.encode a0, 0) else some ((⟨#[]⟩ : ByteArray), 1)
theorem utf_Text.calls (a0 : Int) (r1 : ByteArray) (r2 : Int) (w : World) (h : utf_Text.f a0 = some (r1, r2)) :
    Calls Tryd.prog 17 #[.int .i32 a0] w fun e w' => e = .returned (.tuple #[.string r1, .int .i64 r2]) ∧ Drawn0 w w' := by
  have cv := Lib.hid (Tryd.utf8_ValidRune a0)
  unfold utf_Text.f at h
  cases hv : Lib.validRune a0 with
  | false =>
    rw [if_neg (by rw [hv]; exact Bool.false_ne_true)] at h
    have h' := Option.some.inj h
    simp only [Prod.mk.injEq] at h'
    obtain ⟨rfl, rfl⟩ := h'
    simp only [hv] at cv
    clear h hv
    go_enter Tryd.func17, Tryd.ntmps17
    go_wp2_with (go_at_call 46; refine (cv.out _).mono ?_; rintro e w' ⟨rfl, rfl⟩)
    go_ret2
    exact ⟨rfl, Drawn0.refl _⟩
  | true =>
    rw [if_pos hv] at h
    have h' := Option.some.inj h
    simp only [Prod.mk.injEq] at h'
    obtain ⟨rfl, rfl⟩ := h'
    simp only [hv] at cv
    clear h hv
    have he := fun (w : World) => run_convert_int_string (P := Tryd.prog) w 21 9 .i32 a0 (by kernel_rfl) Tryd.underlying9
    generalize Utf8.encode a0 = q at he ⊢
    go_enter Tryd.func17, Tryd.ntmps17
    go_wp2_with (go_at_call 46; refine (cv.out _).mono ?_; rintro e w' ⟨rfl, rfl⟩)
    go_ret2
    exact ⟨rfl, Drawn0.refl _⟩
end Go.Proofs.YthipdgnbpdngpaaDoor
