/- One step of a run's count, in memory. -/
import Derived.Test.YtcfagmdopkginaaRunA
namespace Go.Proofs.Ytcfagmdopkginaa.RunW
open Go.RowKit Go.Proofs.YtcfagmdopkginaaW.PrintWords Go.Proofs.YtcfagmdopkginaaW.PrintLast Go.Proofs.YtcfagmdopkginaaW.PrintMore
set_option linter.unusedVariables false
variable {x : Fx} {w W : World} {vo0 vo vr : Value} {s : RS} {S : Nat → Prop} {regs : List Int}

set_option maxHeartbeats 4000000 in
theorem step_ok (h : St x w w vo vo s S) (h0 : 0 ≤ s.st) (h1 : s.st < x.fuel) (h2 : x.fuel ≤ 4611686018427387904) :
    Calls Try.prog 36 #[.pointer (some ⟨x.g, 0, none⟩)] w (fun e w' => e = .returned (.bool true) ∧ St x w w' vo vo (tick s) S ∧ ∀ (vr : Value) (regs : List Int), U32.R 38 w x.w0.heap.size (fun _ => True) vr regs → U32.R 38 w' x.w0.heap.size (fun _ => True) vr regs) := by
  have H := Aside0.mk h
  have Zr := blk9 h.blk
  clear h
  go_enter Try.func36, Try.ntmps36
  go_wp2
  go_quiet (fail)
  go_wp2
  go_ret
  exact ⟨rfl, (H.out.drewN nq).cell 7 _ (tick s) rfl rfl rfl, fun vr regs hr => (H.out.drewN nq).cell_regs (Kd.R_drewN hr nq) 7 _⟩

set_option maxHeartbeats 4000000 in
theorem step_out (h : St x w w vo vo s S) (h1 : x.fuel ≤ s.st) :
    Calls Try.prog 36 #[.pointer (some ⟨x.g, 0, none⟩)] w (fun e w' => e = .returned (.bool false) ∧ St x w w' vo vo { s with fin := 5 } S) := by
  have H := Aside0.mk h
  have Zr := blk9 h.blk
  clear h
  go_enter Try.func36, Try.ntmps36
  go_wp2
  go_quiet (fail)
  go_wp2
  go_ret
  exact ⟨rfl, (H.out.drewN nq).cell 8 _ { s with fin := 5 } rfl rfl rfl⟩
end Go.Proofs.Ytcfagmdopkginaa.RunW
