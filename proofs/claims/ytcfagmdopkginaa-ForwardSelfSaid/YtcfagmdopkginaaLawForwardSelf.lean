/- Whatever program of small functions comes in, with whatever input and two bytes: copies of registers to themselves ahead of all blocks change nothing of what the forwarded functions put out, and of how they end: the law ForwardSelf returns true, and its arguments read as before; no condition. -/
import Derived.Test.YtcfagmdopkginaaRows
import Derived.Test.YtcfagmdopkginaaPGs
import Derived.Test.YtcfagmdopkginaaLawSelf
import Derived.Test.YtcfagmdopkginaaArgsS
import Derived.WalkKit
import Derived.ProofKit
import Derived.OpenShut
import Derived.ShutString
import Derived.ChangeOld
import Derived.Below
import Derived.SizedLaws
namespace Go.Proofs.Ytcfagmdopkginaa.forwardSelf
open Go.ChangeShapes Go.WideShapes Go.ChangeAt Go.RowKit
open Go.ChangeMaps (open_string shut_string)
set_option linter.unusedVariables false
theorem own : ownKnob Try.prog.godebug = none := by kernel_rfl
theorem laidOut : laidOutB Try.prog = true := by kernel_rfl
set_option maxRecDepth 100000 in
theorem lifted (os : Os) (started : os.Started) (H : Type) (enc : TypeId × Value → H) :
    ReturnsInHanded {} Try.checked os 9 .any (Rows.forwardSelfSpec.pre6 enc Try.prog Try.f9 Rows.forwardSelfRow.domain false) (Rows.forwardSelfSpec.post enc Try.prog Try.f9 false true false false) := by
  refine returnsInHanded_of_change_sized (C := Try.checked) own started (by kernel_rfl) Try.func9
    (ChangeSpec.witness6 (enc := enc) (C := Try.checked) false ⟨#[], #[.agg #[.int .i64 0, .slice none 0 0], .string ByteArray.empty, .agg #[.int .u8 0, .int .u8 0]], []⟩ 8 (by kernel_rfl) (by kernel_rfl) (by kernel_rfl) (by kernel_rfl)) ?_
  intro W base args ds gs before hval0 hW hcnd hsz0 _
  have hsz : (DataW.weightsEach Try.prog (Try.f9.params.toList ++ Rows.forwardSelfSpec.plain.varTypes Try.prog) (ds ++ gs)).all (· ≤ reachBytes) = true := hsz0
  have hval : ∀ (j : Nat) t v, Try.f9.params[j]? = some t → args[j]? = some v → Value.okWide Try.prog W .any base t v := hval0
  have hW' := hW
  obtain ⟨p, q, hA0, hV, rfl, hfz, hnd⟩ := hW
  have hA : DataW.TrodAll enc Try.prog W 0 (fun _ => true) true Try.f9.params.toList args.toList ds p := hA0
  rw [Try.params9] at hA hval hsz
  obtain ⟨v0, vs0, d0, ds0, p0, q0, hargs, rfl, rfl, h0, r0⟩ := trodAll_cons hA
  obtain ⟨v1, vs1, d1, ds1, p1, q1, rfl, rfl, rfl, h1, r1⟩ := trodAll_cons r0
  obtain ⟨v2, vs2, d2, ds2, p2, q2, rfl, rfl, rfl, h2, r2⟩ := trodAll_cons r1
  obtain ⟨rfl, rfl, rfl⟩ := trodAll_nil r2
  obtain rfl : args = #[v0, v1, v2] := by cases args; simp_all
  obtain ⟨rfl, rfl⟩ := trodVars_none hV
  have k0 := h0
  have k2 := h2
  have lt2 : ∀ x ∈ p2, x.block < W.heap.size := by obtain ⟨m, hm⟩ := k2; exact DataW.trod_lt m _ _ _ hm
  have lt0 : ∀ x ∈ p0, x.block < W.heap.size := by obtain ⟨m, hm⟩ := k0; exact DataW.trod_lt m _ _ _ hm
  obtain ⟨cs, x, rfl, hx, ok0⟩ := Opens.open_struct_arg Try.underlying44 Args.opens_prog (hval 0 44 v0 rfl rfl) h0 hsz (j := 0) rfl rfl
  obtain ⟨B, c, rfl, hlc, hC⟩ := Args.open_prog hx
  obtain ⟨a1, rfl, rfl, rfl, y1⟩ := open_string Try.underlying9 (hval 1 9 v1 rfl rfl) h1
  obtain ⟨a2, b2, rfl, w2, z2⟩ := Args.open_two (P := Try.prog) (t := 51) (e := 5) (by kernel_rfl) (by kernel_rfl) Try.underlying5 (by kernel_rfl) (hval 2 51 v2 rfl rfl) h2
  obtain ⟨k, hk⟩ := RunW.pureSelf (words := x.1) (fs := x.2) (inp := a1) ok0 w2.1 w2.2 z2.1 z2.2
  clear hA0 hval0 hsz0 hsz
  refine (PF.seedcornlaw31_ForwardSelf.calls k x.1 (fun _ => True) B c x.2 a1 a2 b2 W (Args.shared hlc hC) hk).mono fun e W' ⟨he, bel⟩ => ?_
  subst he
  exact ⟨_, rfl, _, _, _, [], _, [], hW', trodAll_mk1 (shut_bool Try.underlying4 _), (trodAll_cons_mk (Below.trod laidOut (by kernel_rfl) (of_decide_eq_true (by kernel_rfl)) k0 bel lt0) (trodAll_cons_mk (shut_string Try.underlying9 y1) (trodAll_cons_mk (Below.trod laidOut (by kernel_rfl) (of_decide_eq_true (by kernel_rfl)) k2 bel lt2) trodAll_mk0))), rfl, bel.frame _, fun h => by cases h⟩
theorem over : Rows.forwardSelfRow.holds Try.pinned (OpenSpec.ofChange Rows.forwardSelfSpec) :=
  OpenClaim.holds_of_wide 9 Try.f9 rfl rfl rfl rfl rfl rfl rfl ⟨rfl, rfl, rfl, rfl, rfl⟩ rfl rfl rfl rfl rfl (by kernel_rfl) Try.func9 (by kernel_rfl)
    (of_decide_eq_true (by kernel_rfl)) (by unfold Func.isWrapper; first | (rw [if_pos (by decide +kernel)]; kernel_rfl) | (rw [if_neg (by decide +kernel)]; exact ⟨rfl, rfl⟩))
    (fun os started H enc _ => lifted os started H enc)
theorem proved : Rows.ForwardSelfSaid := over
#print axioms proved
end Go.Proofs.Ytcfagmdopkginaa.forwardSelf
namespace Go.Proofs.Ytcfagmdopkginaa
/-- The row, under a short name, for the claim. -/
theorem forwardSelf_holds : Rows.ForwardSelfSaid := forwardSelf.proved
end Go.Proofs.Ytcfagmdopkginaa
