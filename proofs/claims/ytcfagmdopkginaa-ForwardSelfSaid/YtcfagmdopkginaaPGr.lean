-- written by a program of this session (print.sh turned)
import Derived.Test.YtcfagmdopkginaaPGx0
import Derived.Test.YtcfagmdopkginaaRunG
namespace Go.Proofs.Ytcfagmdopkginaa.PF
open Go.RowKit Go.Proofs.YtcfagmdopkginaaW.PrintWords Go.Proofs.YtcfagmdopkginaaW.PrintLast Go.Proofs.YtcfagmdopkginaaW.PrintMore
attribute [local go_sem] max2_int min2_int max_two min_two max_three min_three max_four min_four   -- for this text's walks alone
set_option linter.unusedVariables false
set_option linter.unusedSimpArgs false

/-! ### seedcornref24_Run: function 20 -/
noncomputable def seedcornref24_Run.f (k : Nat) (a0_0 : Int) (l0_1 : List (S24)) (a1 : ByteArray) (a2 : Int) : Option (Int × ByteArray × Int) := Go.Proofs.Ytcfagmdopkginaa.RunW.runF k a0_0 l0_1 a1 a2
theorem seedcornref24_Run.calls (k : Nat) (a0_0 : Int) (A0_1 : Option Addr) (c0_1 : Nat) (l0_1 : List (S24)) (a1 : ByteArray) (a2 : Int) (r1 : Int) (r2 : ByteArray) (r3 : Int) (w : World) (hr0_1 : Kd.C k24 w A0_1 l0_1.length l0_1) (hc0_1 : l0_1.length ≤ c0_1) (h : seedcornref24_Run.f k a0_0 l0_1 a1 a2 = some (r1, r2, r3)) :
 Calls Try.prog 20 #[.agg #[.int .i64 a0_0, .slice A0_1 l0_1.length c0_1], .string a1, .int .i64 a2] w fun e w' => e = .returned (.agg #[.int .i64 r1, .string r2, .int .i64 r3]) ∧ Below w.heap.size w w' := Go.Proofs.Ytcfagmdopkginaa.RunW.runF_calls k a0_0 A0_1 c0_1 l0_1 a1 a2 r1 r2 r3 w hr0_1 hc0_1 h

end Go.Proofs.Ytcfagmdopkginaa.PF
