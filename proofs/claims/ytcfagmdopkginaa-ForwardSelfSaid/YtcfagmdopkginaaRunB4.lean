/- A call as an instruction of a run. -/
import Derived.Test.YtcfagmdopkginaaRunA
import Derived.Test.YtcfagmdopkginaaPFx34
namespace Go.Proofs.Ytcfagmdopkginaa.RunW
open Go.RowKit Go.Proofs.YtcfagmdopkginaaW.PrintWords Go.Proofs.YtcfagmdopkginaaW.PrintLast Go.Proofs.YtcfagmdopkginaaW.PrintMore
set_option linter.unusedVariables false
variable {x : Fx} {w W : World} {vo0 vo vr : Value} {s : RS} {S : Nat → Prop} {regs : List Int}

set_option maxHeartbeats 4000000 in
set_option maxRecDepth 100000 in
theorem one_call {d n a b k bs sz : Int} {s' : RS} (h : St x w w vo vo s S) (hr : U32.R 38 w x.w0.heap.size (fun _ => True) vr regs) (hne : ∀ k, vr.ownBlock = some k → x.vw.ownBlock ≠ some k)
    (hc : Calls Try.prog 30 #[.pointer (some ⟨x.g, 0, none⟩), .int .i64 bs] (w.alloc (Obj.cells #[.int .i64 10, .int .i64 d, .int .i64 a, .int .i64 b, .int .i64 k, .int .i64 bs, .int .i64 sz, .int .u32 n] 40)) (fun e w' => e = .returned (.tuple #[]) ∧ ∃ vo', St x (w.alloc (Obj.cells #[.int .i64 10, .int .i64 d, .int .i64 a, .int .i64 b, .int .i64 k, .int .i64 bs, .int .i64 sz, .int .u32 n] 40)) w' vo vo' s' (fun _ => False))) :
    Calls Try.prog 37 #[.pointer (some ⟨x.g, 0, none⟩), tacV 10 d a b k bs sz n, vr] w (OneQ x w vo vr s' regs S) := by
  have H := Aside0.mk h
  have HR := Aside0.mk hr
  have HC := Aside0.mk hc
  clear hr h hc
  go_enter Try.func37, Try.ntmps37
  go_wp2_with (go_at_call 30; refine HC.out.mono ?_; rintro e w' ⟨rfl, vo', h'⟩)
  go_end0
  exact ⟨rfl, vo', H.out.here h', h'.regs_kept (H.out.alloc _) (Kd.R_alloc HR.out _) hne (fun _ _ h => h)⟩
end Go.Proofs.Ytcfagmdopkginaa.RunW
