/- A program's run in memory, in the form that the print's texts have. -/
import Derived.Test.YtcfagmdopkginaaRunF
namespace Go.Proofs.Ytcfagmdopkginaa.RunW
open Go.RowKit Go.Proofs.YtcfagmdopkginaaW.PrintWords
set_option linter.unusedVariables false

/-- What may be run. -/
def okRun (words : Int) (fs : List PF.S24) (inp : ByteArray) (fuel : Int) : Prop :=
  okP words ⟨fs, bytesOf inp, fuel⟩ ∧ 0 ≤ fuel ∧ fuel ≤ 1000000 ∧ inp.size ≤ 1000000 ∧ 0 < fs.length ∧ fs.length ≤ 1000000
def resOf (s : RS) : Int × ByteArray × Int := (if s.fin = 0 then 1 else s.fin, ⟨(s.out.map fun x => UInt8.ofNat x.toNat).toArray⟩, s.st)
open Classical in
/-- A run's result. -/
noncomputable def runF (k : Nat) (words : Int) (fs : List PF.S24) (inp : ByteArray) (fuel : Int) : Option (Int × ByteArray × Int) :=
  if okRun words fs inp fuel then (exec ⟨fs, bytesOf inp, fuel⟩ k (.fn ((fs.length : Int) - 1)) (initS words)).bind fun r => some (resOf r.2.1) else none

theorem runF_calls (k : Nat) (a0_0 : Int) (A0_1 : Option Addr) (c0_1 : Nat) (l0_1 : List PF.S24) (a1 : ByteArray) (a2 : Int) (r1 : Int) (r2 : ByteArray) (r3 : Int) (w : World) (hr0_1 : Kd.C PF.k24 w A0_1 l0_1.length l0_1) (hc0_1 : l0_1.length ≤ c0_1) (h : runF k a0_0 l0_1 a1 a2 = some (r1, r2, r3)) :
    Calls Try.prog 20 #[.agg #[.int .i64 a0_0, .slice A0_1 l0_1.length c0_1], .string a1, .int .i64 a2] w fun e w' => e = .returned (.agg #[.int .i64 r1, .string r2, .int .i64 r3]) ∧ Below w.heap.size w w' := by
  unfold runF at h
  split at h
  · rename_i hok
    obtain ⟨h1, h2, h3, h4, h5, h6⟩ := hok
    obtain ⟨⟨b, s', r'⟩, hex, hr⟩ := Option.bind_eq_some_iff.1 h
    have e := Option.some.inj hr
    unfold resOf at e
    injection e with e1 e2
    injection e2 with e2 e3
    subst e1 e2 e3
    exact run_walk (c := ⟨l0_1, bytesOf a1, a2⟩) (fuel := a2) hr0_1 hc0_1 rfl (by omega) rfl h2 (by omega) h1 h5 h6 hex
  · cases h

theorem exec_ends {words : Int} {c : Cf} (hp : okP words c) (hn : 0 < c.fs.length) : ∃ s' r', Ev (fun k => exec c k (.fn ((c.fs.length : Int) - 1)) (initS words)) (true, s', r') := by
  have h0 := hp.w0
  have hs : okS words (initS words) := ⟨(okR_zeros (n := words) h0).1, (okR_zeros (n := words) h0).2, Nat.zero_le _, fun y hy => (by cases hy), Int.le_refl _, Int.le_refl _⟩
  obtain ⟨k, s', r', h, _⟩ := (tot_all apply_ok hp (c.fuel - (initS words).st).toNat).fn ((c.fs.length : Int) - 1) (by omega) (by omega) (initS words) hs rfl (Nat.le_refl _)
  exact ⟨s', r', k, fun k' hk => exec_at c hk h⟩
theorem runF_ev {words : Int} {fs : List PF.S24} {inp : ByteArray} {fuel : Int} (hok : okRun words fs inp fuel) {b : Bool} {s' : RS} {r' : List Int} (h : Ev (fun k => exec ⟨fs, bytesOf inp, fuel⟩ k (.fn ((fs.length : Int) - 1)) (initS words)) (b, s', r')) : Ev (fun k => runF k words fs inp fuel) (resOf s') := by
  obtain ⟨K, hK⟩ := h
  refine ⟨K, fun k hk => ?_⟩
  have e := hK k hk
  dsimp only at e
  show runF k words fs inp fuel = _
  unfold runF
  rw [if_pos hok, e]
  rfl
end Go.Proofs.Ytcfagmdopkginaa.RunW
