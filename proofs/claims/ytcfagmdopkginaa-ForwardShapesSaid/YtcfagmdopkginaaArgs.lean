/- The arguments of the laws of layer 31, opened: a function in blocks, and a program in blocks. -/
import Derived.Test.YtcfagmdopkginaaOpens
import Derived.Test.YtcfagmdopkginaaPFx0
import Derived.OpenShut
namespace Go.Proofs.Ytcfagmdopkginaa.Args
open Go.ChangeShapes Go.WideShapes Go.Deep Go.Proofs.YtcfagmdopkginaaW.PrintWords Go.Proofs.Ytcfagmdopkginaa.Opens Go.Proofs.Ytcfagmdopkginaa.PF

def i64 (x : Int) : Prop := -9223372036854775808 ≤ x ∧ x ≤ 9223372036854775807
def u32 (x : Int) : Prop := 0 ≤ x ∧ x ≤ 4294967295
theorem i64_of {x : Int} (h : (Lit.int .i64 x).wf = true) : i64 x := bounds_i64 h
theorem u32_of {x : Int} (h : (Lit.int .u32 x).wf = true) : u32 x := bounds_u32 h

/-- An instruction whose numbers are Go's. -/
def okTac (x : S40) : Prop := i64 x.f0 ∧ i64 x.f1 ∧ i64 x.f2 ∧ i64 x.f3 ∧ i64 x.f4 ∧ i64 x.f5 ∧ i64 x.f6 ∧ u32 x.f7
/-- A block, likewise, whose instructions are no more than memory holds. -/
def okBlock (x : S37) : Prop := x.f0.length * 64 ≤ 140737488351232 ∧ (∀ t ∈ x.f0, okTac t) ∧ i64 x.f1 ∧ i64 x.f2 ∧ i64 x.f3 ∧ i64 x.f4

theorem opens_i64 : Opens Try.prog (Kd.int .i64) 3 i64 := (opens_int Try.underlying3 (by kernel_rfl)).mono fun _ h => i64_of h
theorem opens_u32 : Opens Try.prog (Kd.int .u32) 38 u32 := (opens_int Try.underlying38 (by kernel_rfl)).mono fun _ h => u32_of h

theorem opens_tac : Opens Try.prog k40 40 okTac := by
  refine opens_struct Try.underlying40 (by kernel_rfl) (d := k40) ?_
  intro H enc w base spare held fuel cs xs hl hx hi hw
  obtain ⟨v, hv, q⟩ := opensF_cons opens_i64 rfl rfl (opensF_cons opens_i64 rfl rfl (opensF_cons opens_i64 rfl rfl (opensF_cons opens_i64 rfl rfl (opensF_cons opens_i64 rfl rfl (opensF_cons opens_i64 rfl rfl (opensF_cons opens_i64 rfl rfl (opensF_one opens_u32 rfl))))))) H enc w base spare held fuel cs xs hl hx hi hw
  exact ⟨⟨v.1, v.2.1, v.2.2.1, v.2.2.2.1, v.2.2.2.2.1, v.2.2.2.2.2.1, v.2.2.2.2.2.2.1, v.2.2.2.2.2.2.2⟩, hv, q⟩

theorem opens_block : Opens Try.prog k37 37 okBlock := by
  refine opens_struct Try.underlying37 (by kernel_rfl) (d := k37) ?_
  intro H enc w base spare held fuel cs xs hl hx hi hw
  obtain ⟨v, hv, q⟩ := opensF_cons (opens_slice z40 Try.underlying35 (by kernel_rfl) (B := 64) (by kernel_rfl) opens_tac) rfl rfl (opensF_cons opens_i64 rfl rfl (opensF_cons opens_i64 rfl rfl (opensF_cons opens_i64 rfl rfl (opensF_one opens_i64 rfl)))) H enc w base spare held fuel cs xs hl hx hi hw
  exact ⟨⟨v.1, v.2.1, v.2.2.1, v.2.2.2.1, v.2.2.2.2⟩, hv, ⟨q.1.1, q.1.2.2, q.2⟩⟩

/-- A function: its registers, and its blocks. -/
def kFunc : Kd (Int × List S37) := Kd.pair (Kd.int .i64) (Kd.slice 37 k37)
def okFunc (x : Int × List S37) : Prop := i64 x.1 ∧ x.2.length * 56 ≤ 140737488351232 ∧ ∀ b ∈ x.2, okBlock b

theorem opens_func : Opens Try.prog kFunc 24 okFunc := by
  refine opens_struct Try.underlying24 (by kernel_rfl) (d := kFunc) ?_
  intro H enc w base spare held fuel cs xs hl hx hi hw
  obtain ⟨v, hv, q⟩ := opensF_cons opens_i64 rfl rfl (opensF_one (opens_slice z37 Try.underlying22 (by kernel_rfl) (B := 56) (by kernel_rfl) opens_block) rfl) H enc w base spare held fuel cs xs hl hx hi hw
  exact ⟨v, hv, ⟨q.1, q.2.1, q.2.2.2⟩⟩

theorem open_func {w : World} {x : Int × List S37} {cs : Array Value} (h : kFunc.K w x cs.toList) :
    ∃ (A : Option Addr) (c : Nat), cs = #[.int .i64 x.1, .slice A x.2.length c] ∧ x.2.length ≤ c ∧ Kd.C k37 w A x.2.length x.2 := by
  obtain ⟨c0, c1, he, h0, A, c, h1, hl, hC⟩ := h
  have h0' : c0 = [.int .i64 x.1] := h0
  subst h0' h1
  refine ⟨A, c, ?_, hl, hC⟩
  apply Array.toList_inj.1
  rw [he]
  rfl

end Go.Proofs.Ytcfagmdopkginaa.Args
