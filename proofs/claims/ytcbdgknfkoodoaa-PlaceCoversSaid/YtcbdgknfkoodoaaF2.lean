/- The walks of the program's functions, written by a program for this claim: each function's call does what its plain Lean function says. No conditions beyond those stated. -/
import Derived.Test.YtcbdgknfkoodoaaF0
namespace Go.Proofs.Ytcbdgknfkoodoaa.F
open Go.RowKit Go.Proofs.YtcbdgknfkoodoaaW.PrintWords Go.Proofs.YtcbdgknfkoodoaaW.PrintLast Go.Proofs.YtcbdgknfkoodoaaW.PrintMore
attribute [local go_sem] max2_int min2_int max_two min_two max_three min_three max_four min_four   -- for this text's walks alone
set_option linter.unusedVariables false
set_option linter.unusedSimpArgs false

/-! ### octet_span: function 59 -/
def octet_span.f (a0 : Int) (a1 : Int) (a2 : Int) : Option (Int) := if a1 > a0 then (some 2) else (if a2 > (wrap64 (a0 - a1)) then (some 2) else (some 0))
set_option maxHeartbeats 8000000 in
set_option maxRecDepth 100000 in
theorem octet_span.calls (a0 : Int) (a1 : Int) (a2 : Int) (r : Int) (w : World) (h : octet_span.f a0 a1 a2 = some r) :
    Calls Try.prog 59 #[.int .i64 a0, .int .i64 a1, .int .i64 a2] w fun e w' => e = .returned (.int .i64 r) ∧ Drawn0 w w' := by
  have H : (if a1 > a0 then (some 2) else (if a2 > (wrap64 (a0 - a1)) then (some 2) else (some 0))) = some r := h
  clear h
  by_cases c4 : a1 > a0
  · rw [if_pos c4] at H
    have c4b0 : decide (a0 < a1) = true := decide_eq_true c4
    clear c4
    obtain rfl := Option.some.inj H
    go_enter Try.func59, Try.ntmps59
    go_wp2
    go_ret
    exact ⟨by first | rfl | (simp; done) | (simp [*]; done), by repeat (first | exact Drawn0.refl _ | apply Drawn0.step)⟩
  rw [if_neg c4] at H
  have c4b0 : decide (a0 < a1) = false := decide_eq_false c4
  clear c4
  by_cases c5 : a2 > (wrap64 (a0 - a1))
  · rw [if_pos c5] at H
    have c5b0 : decide ((wrap64 (a0 - a1)) < a2) = true := decide_eq_true c5
    clear c5
    obtain rfl := Option.some.inj H
    go_enter Try.func59, Try.ntmps59
    go_wp2
    go_ret
    exact ⟨by first | rfl | (simp; done) | (simp [*]; done), by repeat (first | exact Drawn0.refl _ | apply Drawn0.step)⟩
  rw [if_neg c5] at H
  have c5b0 : decide ((wrap64 (a0 - a1)) < a2) = false := decide_eq_false c5
  clear c5
  obtain rfl := Option.some.inj H
  go_enter Try.func59, Try.ntmps59
  go_wp2
  go_ret
  exact ⟨by first | rfl | (simp; done) | (simp [*]; done), by repeat (first | exact Drawn0.refl _ | apply Drawn0.step)⟩

end Go.Proofs.Ytcbdgknfkoodoaa.F
