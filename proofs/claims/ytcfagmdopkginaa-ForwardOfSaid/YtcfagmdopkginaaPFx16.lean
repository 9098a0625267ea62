-- written by a program of this session (print.sh turned)
import Derived.Test.YtcfagmdopkginaaPFx0
namespace Go.Proofs.Ytcfagmdopkginaa.PF
open Go.RowKit Go.Proofs.YtcfagmdopkginaaW.PrintWords Go.Proofs.YtcfagmdopkginaaW.PrintLast Go.Proofs.YtcfagmdopkginaaW.PrintMore
attribute [local go_sem] max2_int min2_int max_two min_two max_three min_three max_four min_four   -- for this text's walks alone
set_option linter.unusedVariables false
set_option linter.unusedSimpArgs false

/-! ### seedcornref31_from: function 32 -/
def seedcornref31_from.f (l0 : List Int) (a1 : Int) : Option (Int) := if 0 ≤ a1 then (if a1 < (l0.length : Int) then (some (rd l0 a1)) else (none)) else (none)
set_option maxHeartbeats 40000000 in
set_option maxRecDepth 100000 in
theorem seedcornref31_from.calls (A0 : Option Addr) (c0 : Nat) (l0 : List Int) (a1 : Int) (r : Int) (w : World) (hr0 : Kd.C (Kd.int .i64) w A0 l0.length l0) (hc0 : l0.length ≤ c0) (h : seedcornref31_from.f l0 a1 = some r) :
 Calls Try.prog 32 #[.slice A0 l0.length c0, .int .i64 a1] w fun e w' => e = .returned (.int .i64 r) ∧ Drawn0 w w' := by
 have HR0 := Aside0.mk hr0; have HC0 := Aside0.mk hc0; clear hr0 hc0; have H : (if 0 ≤ a1 then (if a1 < (l0.length : Int) then (some (rd l0 a1)) else (none)) else (none)) = some r := h; clear h
 by_cases c3 : 0 ≤ a1
 · rw [if_pos c3] at H
   have c3b0 : decide (0 ≤ a1) = true := decide_eq_true c3; clear c3
   by_cases c4 : a1 < (l0.length : Int)
   · rw [if_pos c4] at H
     have c4b0 : decide (a1 < (l0.length : Int)) = true := decide_eq_true c4; clear c4; obtain rfl := Option.some.inj H; have p225 : 0 ≤ (a1 : Int) := of_decide_eq_true (by first | (with_reducible assumption) | assumption); have q225 : a1 < (l0.length : Int) := of_decide_eq_true (by first | (with_reducible assumption) | assumption); obtain ⟨ad225, e225, hx225_0⟩ := Kd.at_int HR0.out a1 p225 q225
     cases e225
     replace p225 := eq_true p225; replace q225 := eq_true q225
     go_enter Try.func32, Try.ntmps32
     go_wp2
     go_ret
     exact ⟨by first | rfl | (simp; done) | (simp [*]; done), by repeat (first | exact Drawn0.refl _ | apply Drawn0.step)⟩
   · rw [if_neg c4] at H
     exact absurd H (by simp)
 · rw [if_neg c3] at H
   exact absurd H (by simp)

end Go.Proofs.Ytcfagmdopkginaa.PF
