/- The arguments of the law over whole programs and two bytes, opened. -/
import Derived.Test.YtcfagmdopkginaaArgs
import Derived.Test.YtcfagmdopkginaaRightB
import Derived.ChangeSame
import Derived.Test.YtcfagmdopkginaaY2
namespace Go.Proofs.Ytcfagmdopkginaa.Args
open Go.ChangeShapes Go.WideShapes Go.Deep Go.Proofs.YtcfagmdopkginaaW.PrintWords Go.Proofs.Ytcfagmdopkginaa.Opens Go.Proofs.Ytcfagmdopkginaa.PF

theorem opens_s24 : Opens Try.prog k24 24 (fun f => okFunc (f.f0, f.f1)) := by
  refine opens_struct Try.underlying24 (by kernel_rfl) (d := k24) ?_
  intro H enc w base spare held fuel cs xs hl hx hi hw
  obtain ⟨v, hv, q⟩ := opensF_cons opens_i64 rfl rfl (opensF_one (opens_slice z37 Try.underlying22 (by kernel_rfl) (B := 56) (by kernel_rfl) opens_block) rfl) H enc w base spare held fuel cs xs hl hx hi hw
  exact ⟨⟨v.1, v.2⟩, hv, ⟨q.1, q.2.1, q.2.2.2⟩⟩

/-- A program: its words, and its functions. -/
def kProg : Kd (Int × List S24) := Kd.pair (Kd.int .i64) (Kd.slice 24 k24)
theorem opens_prog : Opens Try.prog kProg 44 RunW.okProg := by
  refine opens_struct Try.underlying44 (by kernel_rfl) (d := kProg) ?_
  intro H enc w base spare held fuel cs xs hl hx hi hw
  obtain ⟨v, hv, q⟩ := opensF_cons opens_i64 rfl rfl (opensF_one (opens_slice z24 Try.underlying42 (by kernel_rfl) (B := 32) (by kernel_rfl) opens_s24) rfl) H enc w base spare held fuel cs xs hl hx hi hw
  exact ⟨v, hv, ⟨q.1, q.2.1, q.2.2.2⟩⟩
theorem open_prog {w : World} {x : Int × List S24} {cs : Array Value} (h : kProg.K w x cs.toList) :
    ∃ (A : Option Addr) (c : Nat), cs = #[.int .i64 x.1, .slice A x.2.length c] ∧ x.2.length ≤ c ∧ Kd.C k24 w A x.2.length x.2 := by
  obtain ⟨c0, c1, he, h0, A, c, h1, hl, hC⟩ := h
  have h0' : c0 = [.int .i64 x.1] := h0
  subst h0' h1
  refine ⟨A, c, ?_, hl, hC⟩
  apply Array.toList_inj.1
  rw [he]
  rfl

/-- An array of two bytes that comes in. -/
theorem open_two {H : Type} {enc : TypeId × Value → H} {P : Program} {w : World} {base : Nat} {spare : Nat → Bool} {held : Bool} {r : Reach} {b0 : Nat} {t e : TypeId} {v : Value} {dd : DataW H} {ps : List MemPlace} (ht : P.underlying t = some (.array 2 e)) (hc : P.cellsOf t = 2) (he : P.underlying e = some (.int .u8)) (hce : P.cellsOf e = 1)
    (hv : Value.okWide P w r b0 t v) (hd : DataW.Trod enc P w base spare held t v dd ps) : ∃ a b : Int, v = .agg #[.int .u8 a, .int .u8 b] ∧ (0 ≤ a ∧ a ≤ 255) ∧ (0 ≤ b ∧ b ≤ 255) := by
  simp only [Value.okWide, ht] at hv
  obtain ⟨xs, rfl, hs, _⟩ := hv
  obtain ⟨l⟩ := xs
  rw [hc] at hs
  obtain ⟨c0, c1, rfl⟩ : ∃ c0 c1, l = [c0, c1] := by
    have hs' : l.length = 2 := hs
    match l, hs' with
    | [c0, c1], _ => exact ⟨c0, c1, rfl⟩
  obtain ⟨fuel, hf⟩ := hd
  cases fuel with
  | zero => simp [DataW.trod] at hf
  | succ n =>
    unfold DataW.trod at hf
    rw [ht] at hf
    have r2 : List.range 2 = [0, 1] := rfl
    simp [r2, hce, Value.cells] at hf
    obtain ⟨_, hf⟩ := hf
    cases h0 : DataW.trod enc P w base spare held n e [c0] with
    | none => simp [h0] at hf
    | some y0 =>
      cases h1 : DataW.trod enc P w base spare held n e [c1] with
      | none => simp [h0, h1] at hf
      | some y1 =>
        obtain ⟨a, ha, _, wa⟩ := DataW.trod_int he h0
        obtain ⟨b, hb, _, wb⟩ := DataW.trod_int he h1
        simp [Lit.wf] at wa wb
        refine ⟨a, b, ?_, wa, wb⟩
        cases ha
        cases hb
        rfl
theorem heap40 : Kd.Heap k40 := ⟨fun _ h => by rw [k40_open h]; exact k40_mk _ _⟩
theorem heap37 : Kd.Heap k37 := ⟨fun hb h => by
  obtain ⟨A, c, rfl, hl, hC⟩ := k37_open h
  exact k37_mk _ _ hl (heap40.C hb hC)⟩
theorem heap24 : Kd.Heap k24 := ⟨fun hb h => by
  obtain ⟨A, c, rfl, hl, hC⟩ := k24_open h
  exact k24_mk _ _ hl (heap37.C hb hC)⟩
/-- What came in, told as what may lead to anything. -/
theorem shared {w : World} {A : Option Addr} {c : Nat} {l : List S24} (hl : l.length ≤ c) (h : Kd.C k24 w A l.length l) : Kd.V k24 24 w w.heap.size (fun _ => True) (.slice A l.length c) l :=
  Kd.V_mk hl (fun _ hm => heap24.C (fun k hk => hm k trivial hk) h)
end Go.Proofs.Ytcfagmdopkginaa.Args
