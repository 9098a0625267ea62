-- written by a program of this session (print.sh turned)
import Derived.Test.YtcfagmdopkginaaPFx0
namespace Go.Proofs.Ytcfagmdopkginaa.PF
open Go.RowKit Go.Proofs.YtcfagmdopkginaaW.PrintWords Go.Proofs.YtcfagmdopkginaaW.PrintLast Go.Proofs.YtcfagmdopkginaaW.PrintMore
attribute [local go_sem] max2_int min2_int max_two min_two max_three min_three max_four min_four   -- for this text's walks alone
set_option linter.unusedVariables false
set_option linter.unusedSimpArgs false

/-! ### seedcornref01_shift: function 40 -/
def seedcornref01_shift.l0 : Nat → Int → Int → Int → Int → Option (Int)
 | 0, _, _, _, _ => none
 | k + 1, x0, x2, x7, x8 => if x8 < x2 then (if x0 = 12 then (seedcornref01_shift.l0 k x0 x2 (Int.tmod (IntKind.u64.wrap (2 * x7)) 4294967296) ((x8 + 1) % 4294967296)) else (seedcornref01_shift.l0 k x0 x2 (IntKind.u64.wrap (Int.tdiv x7 2)) ((x8 + 1) % 4294967296))) else (some ((x7) % 4294967296))
def seedcornref01_shift.f (k : Nat) (a0 : Int) (a1 : Int) (a2 : Int) : Option (Int) := if a2 ≥ 32 then (some 0) else (seedcornref01_shift.l0 k a0 a2 (IntKind.u64.wrap (a1)) 0)
set_option maxHeartbeats 40000000 in
set_option maxRecDepth 100000 in
theorem seedcornref01_shift.calls (k : Nat) (a0 : Int) (a1 : Int) (a2 : Int) (r : Int) (w : World) (h : seedcornref01_shift.f k a0 a1 a2 = some r) :
 Calls Try.prog 40 #[.int .i64 a0, .int .u32 a1, .int .u32 a2] w fun e w' => e = .returned (.int .u32 r) ∧ Drawn0 w w' := by
 have H : (if a2 ≥ 32 then (some 0) else (seedcornref01_shift.l0 k a0 a2 (IntKind.u64.wrap (a1)) 0)) = some r := h; clear h
 by_cases c4 : a2 ≥ 32
 · rw [if_pos c4] at H
   have c4b0 : decide (32 ≤ a2) = true := decide_eq_true c4; clear c4; obtain rfl := Option.some.inj H
   go_enter Try.func40, Try.ntmps40
   go_wp2
   go_ret
   exact ⟨by first | rfl | (simp; done) | (simp [*]; done), by repeat (first | exact Drawn0.refl _ | apply Drawn0.step)⟩
 · rw [if_neg c4] at H
   have c4b0 : decide (32 ≤ a2) = false := decide_eq_false c4; clear c4; have H' := Aside0.mk H; clear H
   go_enter Try.func40, Try.ntmps40
   go_wp2
   go_loopg [7, 8] k (fun kq v7 v8 w' => ∃ (x7_1 : Int) (x8_1 : Int), v7 = .int .u64 x7_1 ∧ v8 = .int .u32 x8_1 ∧ Aside0 (seedcornref01_shift.l0 kq a0 a2 x7_1 x8_1 = some r) ∧ Aside0 (kq ≤ k) ∧ Drawn0 w w')
   case atStart => exact ⟨(IntKind.u64.wrap (a1)), (0), (by first | rfl | (simp; done) | (simp [*]; done)), (by first | rfl | (simp; done) | (simp [*]; done)), H', ⟨Nat.le_refl _⟩, by repeat (first | exact Drawn0.refl _ | apply Drawn0.step)⟩
   case round =>
    clear H'; (try clear p2); (try clear c4); (try clear c4b0); obtain ⟨x7_1, x8_1, rfl, rfl, HA, HK1, ⟨m1, rfl⟩⟩ := hrel
    cases gk with
    | zero => exact absurd HA.out (by simp [seedcornref01_shift.l0])
    | succ k1 =>
     have H := HA.out; clear HA; (simp only [seedcornref01_shift.l0] at H)
     by_cases c5 : x8_1 < a2
     · rw [if_pos c5] at H
       have c5b0 : decide (x8_1 < a2) = true := decide_eq_true c5; clear c5
       by_cases c6 : a0 = 12
       · rw [if_pos c6] at H
         have c6b0 : (a0 == 12) = true := beq_iff_eq.mpr c6; have c6b1 : (a0 != 12) = false := bne_eq_false_iff_eq.mpr c6; clear c6; have H' := Aside0.mk H; clear H; go_wp2
         go_roundg k1
         case measure => have := HK1.out; omega
         case rel => exact ⟨(Int.tmod (IntKind.u64.wrap (2 * x7_1)) 4294967296), ((x8_1 + 1) % 4294967296), (by first | rfl | (simp; done) | (simp [*]; done)), (by first | rfl | (simp; done) | (simp [*]; done)), H', ⟨by have := HK1.out; omega⟩, by repeat (first | exact Drawn0.refl _ | apply Drawn0.step)⟩
       · rw [if_neg c6] at H
         have c6b0 : (a0 == 12) = false := beq_eq_false_iff_ne.mpr c6; have c6b1 : (a0 != 12) = true := bne_iff_ne.mpr c6; have H' := Aside0.mk H; clear H; go_wp2
         go_roundg k1
         case measure => have := HK1.out; omega
         case rel => exact ⟨(IntKind.u64.wrap (Int.tdiv x7_1 2)), ((x8_1 + 1) % 4294967296), (by first | rfl | (simp; done) | (simp [*]; done)), (by first | rfl | (simp; done) | (simp [*]; done)), H', ⟨by have := HK1.out; omega⟩, by repeat (first | exact Drawn0.refl _ | apply Drawn0.step)⟩
     · rw [if_neg c5] at H
       have c5b0 : decide (x8_1 < a2) = false := decide_eq_false c5; clear c5; obtain rfl := Option.some.inj H; go_wp2
       go_ret
       exact ⟨by first | rfl | (simp; done) | (simp [*]; done), by repeat (first | exact Drawn0.refl _ | apply Drawn0.step)⟩

end Go.Proofs.Ytcfagmdopkginaa.PF
