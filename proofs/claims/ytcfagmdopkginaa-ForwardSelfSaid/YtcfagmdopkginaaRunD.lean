/- An instruction that is no call, in memory: what the plain run says. -/
import Derived.Test.YtcfagmdopkginaaRunB1
import Derived.Test.YtcfagmdopkginaaRunB2
import Derived.Test.YtcfagmdopkginaaRunB3
import Derived.Test.YtcfagmdopkginaaRunB4
import Derived.Test.YtcfagmdopkginaaRunC
namespace Go.Proofs.Ytcfagmdopkginaa.RunW
open Go.RowKit Go.Proofs.YtcfagmdopkginaaW.PrintWords Go.Proofs.YtcfagmdopkginaaW.PrintLast Go.Proofs.YtcfagmdopkginaaW.PrintMore
set_option linter.unusedVariables false
variable {x : Fx} {w W : World} {vo0 vo vr : Value} {s : RS} {S : Nat → Prop} {regs : List Int}

theorem bytesOf_len (b : ByteArray) : (bytesOf b).length = b.size := by unfold bytesOf; rw [List.length_map]; rfl

theorem one_walk {number words R : Int} {t : PF.S40} (h : St x w w vo vo s S) (hr : U32.R 38 w x.w0.heap.size (fun _ => True) vr regs) (hne : ∀ k, vr.ownBlock = some k → x.vw.ownBlock ≠ some k) (hS : ∀ k, vr.ownBlock = some k → S k)
    (ht : okI R number words t) (h10 : t.f0 ≠ 10) (hs : okS words s) (hR : okR R regs) (hw : words ≤ 1048576) (hil : (x.inp.size : Int) ≤ 4611686018427387904) {s' : RS} {regs' : List Int} (hm : oneM (bytesOf x.inp) t s regs = some (s', regs')) :
    Calls Try.prog 37 #[.pointer (some ⟨x.g, 0, none⟩), tacV t.f0 t.f1 t.f2 t.f3 t.f4 t.f5 t.f6 t.f7, vr] w (OneQ x w vo vr s' regs' S) := by
  obtain ⟨op, d, a, b, k, bs, sz, n⟩ := t
  have hlen := hR.1
  have hd : Plain.sets op = true → 0 ≤ d ∧ d < (regs.length : Int) := fun e => by rw [hlen]; exact ht.u.d e
  have ha : Plain.usesA op = true → 0 ≤ a ∧ a < (regs.length : Int) := fun e => by rw [hlen]; exact ht.u.a e
  have hb : Plain.usesB op = true → 0 ≤ b ∧ b < (regs.length : Int) := fun e => by rw [hlen]; exact ht.u.b e
  have hwl := hs.w
  have hrd := u32L_rd hR.2
  have h10' : op ≠ 10 := h10
  have hop := ht.op
  dsimp only at hop ⊢
  unfold oneM at hm
  dsimp only at hm
  by_cases h1 : op = 1
  · rw [if_pos h1] at hm
    obtain ⟨rfl, rfl⟩ := by simpa using hm
    subst h1
    exact one_const h hr hne hS (hd rfl).1 (hd rfl).2
  rw [if_neg h1] at hm
  by_cases h2 : op = 2
  · rw [if_pos h2] at hm
    obtain ⟨rfl, rfl⟩ := by simpa using hm
    subst h2
    exact one_copy h hr hne hS (hd rfl).1 (hd rfl).2 (ha rfl).1 (ha rfl).2
  rw [if_neg h2] at hm
  by_cases h3 : op = 3
  · rw [if_pos h3] at hm
    obtain ⟨⟨v, e⟩, hap, hm⟩ := Option.bind_eq_some_iff.1 hm
    obtain ⟨kk, hkk⟩ := (ap_some hap)
    subst h3
    dsimp only at hm
    by_cases he : e = 0
    · subst he
      rw [if_pos rfl] at hm
      obtain ⟨rfl, rfl⟩ := by simpa using hm
      exact one_bin_ok h hr hne hS (hd rfl).1 (hd rfl).2 (ha rfl).1 (ha rfl).2 (hb rfl).1 (hb rfl).2 (hkk kk (Nat.le_refl _))
    · rw [if_neg he] at hm
      obtain ⟨rfl, rfl⟩ := by simpa using hm
      exact one_bin_bad h hr hne hS (ha rfl).1 (ha rfl).2 (hb rfl).1 (hb rfl).2 (hkk kk (Nat.le_refl _)) he
  rw [if_neg h3] at hm
  by_cases h4 : op = 4
  · rw [if_pos h4] at hm
    obtain ⟨rfl, rfl⟩ := by simpa using hm
    have := ht.wd (.inl h4)
    subst h4
    exact one_load h hr hne hS (hd rfl).1 (hd rfl).2 this.1 (by rw [hwl]; exact this.2)
  rw [if_neg h4] at hm
  by_cases h5 : op = 5
  · rw [if_pos h5] at hm
    obtain ⟨rfl, rfl⟩ := by simpa using hm
    have := ht.wd (.inr h5)
    subst h5
    exact one_store h hr hne hS (ha rfl).1 (ha rfl).2 this.1 (by rw [hwl]; exact this.2)
  rw [if_neg h5] at hm
  by_cases h6 : op = 6
  · rw [if_pos h6] at hm
    have hz := ht.ar (.inl h6)
    dsimp only at hz
    have := hrd a
    subst h6
    by_cases hx : sz ≤ rdOf 0 regs a
    · rw [if_pos hx] at hm
      obtain ⟨rfl, rfl⟩ := by simpa using hm
      exact one_aload_bad h hr hne hS (ha rfl).1 (ha rfl).2 (by omega) (by omega) (by omega) (by omega) (by omega) (by omega) (by omega) hx
    · rw [if_neg hx] at hm
      obtain ⟨rfl, rfl⟩ := by simpa using hm
      exact one_aload h hr hne hS (hd rfl).1 (hd rfl).2 (ha rfl).1 (ha rfl).2 (by omega) (by omega) (by omega) (by omega) (by omega) (by omega) (by omega) (by omega)
  rw [if_neg h6] at hm
  by_cases h7 : op = 7
  · rw [if_pos h7] at hm
    have hz := ht.ar (.inr h7)
    dsimp only at hz
    have := hrd a
    subst h7
    by_cases hx : sz ≤ rdOf 0 regs a
    · rw [if_pos hx] at hm
      obtain ⟨rfl, rfl⟩ := by simpa using hm
      exact one_astore_bad h hr hne hS (ha rfl).1 (ha rfl).2 (by omega) (by omega) (by omega) (by omega) (by omega) (by omega) (by omega) hx
    · rw [if_neg hx] at hm
      obtain ⟨rfl, rfl⟩ := by simpa using hm
      exact one_astore h hr hne hS (ha rfl).1 (ha rfl).2 (hb rfl).1 (hb rfl).2 (by omega) (by omega) (by omega) (by omega) (by omega) (by omega) (by omega) (by omega)
  rw [if_neg h7] at hm
  by_cases h8 : op = 8
  · rw [if_pos h8, bytesOf_len] at hm
    subst h8
    by_cases hx : (x.inp.size : Int) ≤ s.rd
    · rw [if_pos hx] at hm
      obtain ⟨rfl, rfl⟩ := by simpa using hm
      exact one_get_none h hr hne hS (hd rfl).1 (hd rfl).2 hs.r0 hx
    · rw [if_neg hx] at hm
      obtain ⟨rfl, rfl⟩ := by simpa using hm
      exact one_get_some h hr hne hS (hd rfl).1 (hd rfl).2 hs.r0 (by omega) hil
  rw [if_neg h8] at hm
  by_cases h9 : op = 9
  · rw [if_pos h9] at hm
    subst h9
    by_cases hx : 65536 ≤ s.out.length
    · rw [if_pos hx] at hm
      obtain ⟨rfl, rfl⟩ := by simpa using hm
      exact one_put_full h hr hne hS (by omega)
    · rw [if_neg hx] at hm
      obtain ⟨rfl, rfl⟩ := by simpa using hm
      exact one_put h hr hne hS (ha rfl).1 (ha rfl).2 (by omega)
  omega
end Go.Proofs.Ytcfagmdopkginaa.RunW
