/- The arguments of the laws of layer 31 over whole programs in blocks, opened. -/
import Derived.Test.YtcfagmdopkginaaArgs
import Derived.Test.YtcfagmdopkginaaLawMeans
namespace Go.Proofs.Ytcfagmdopkginaa.Args
open Go.ChangeShapes Go.WideShapes Go.Deep Go.Proofs.YtcfagmdopkginaaW.PrintWords Go.Proofs.Ytcfagmdopkginaa.Opens Go.Proofs.Ytcfagmdopkginaa.PF

theorem opens_s24 : Opens Try.prog k24 24 (fun f => okFunc (f.f0, f.f1)) := by
  refine opens_struct Try.underlying24 (by kernel_rfl) (d := k24) ?_
  intro H enc w base spare held fuel cs xs hl hx hi hw
  obtain ⟨v, hv, q⟩ := opensF_cons opens_i64 rfl rfl (opensF_one (opens_slice z37 Try.underlying22 (by kernel_rfl) (B := 56) (by kernel_rfl) opens_block) rfl) H enc w base spare held fuel cs xs hl hx hi hw
  exact ⟨⟨v.1, v.2⟩, hv, ⟨q.1, q.2.1, q.2.2.2⟩⟩

/-- A program: its words, and its functions. -/
def kProg : Kd (Int × List S24) := Kd.pair (Kd.int .i64) (Kd.slice 24 k24)
theorem opens_prog : Opens Try.prog kProg 44 RunW.okProg := by
  refine opens_struct Try.underlying44 (by kernel_rfl) (d := kProg) ?_
  intro H enc w base spare held fuel cs xs hl hx hi hw
  obtain ⟨v, hv, q⟩ := opensF_cons opens_i64 rfl rfl (opensF_one (opens_slice z24 Try.underlying42 (by kernel_rfl) (B := 32) (by kernel_rfl) opens_s24) rfl) H enc w base spare held fuel cs xs hl hx hi hw
  exact ⟨v, hv, ⟨q.1, q.2.1, q.2.2.2⟩⟩
theorem open_prog {w : World} {x : Int × List S24} {cs : Array Value} (h : kProg.K w x cs.toList) :
    ∃ (A : Option Addr) (c : Nat), cs = #[.int .i64 x.1, .slice A x.2.length c] ∧ x.2.length ≤ c ∧ Kd.C k24 w A x.2.length x.2 := by
  obtain ⟨c0, c1, he, h0, A, c, h1, hl, hC⟩ := h
  have h0' : c0 = [.int .i64 x.1] := h0
  subst h0' h1
  refine ⟨A, c, ?_, hl, hC⟩
  apply Array.toList_inj.1
  rw [he]
  rfl
end Go.Proofs.Ytcfagmdopkginaa.Args
