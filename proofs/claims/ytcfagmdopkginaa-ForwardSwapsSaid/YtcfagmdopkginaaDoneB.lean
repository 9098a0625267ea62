/- Nothing in a forwarded block reads a copy. -/
import Derived.Test.YtcfagmdopkginaaFwdAw
import Derived.Test.YtcfagmdopkginaaPFx24
import Derived.Test.YtcfagmdopkginaaPFx25
namespace Go.Proofs.Ytcfagmdopkginaa.Plain
open Go.RowKit Go.Proofs.YtcfagmdopkginaaW.PrintWords Go.Proofs.Ytcfagmdopkginaa.PF Go.Proofs.Ytcfagmdopkginaa.Args

theorem ev_after {α : Type} {g : Nat → Option α} {r : α} (j : Nat) (h : ∀ k, g (k + j) = some r) : Ev g r :=
  ⟨j, fun k hk => by obtain ⟨m, rfl⟩ : ∃ m, k = m + j := ⟨k - j, by omega⟩; exact h m⟩
def usesL (t : S40) : List Int := if usesB t.f0 then [t.f2, t.f3] else if usesA t.f0 then [t.f2] else []
theorem uses_at (t : S40) (k : Nat) : seedcornref24_Uses.f (k + 1) t.f0 t.f1 t.f2 t.f3 t.f4 t.f5 t.f6 t.f7 = some (usesL t) := by
  simp only [seedcornref24_Uses.f, seedcornref24_Uses.j0, usesL, usesA, usesB]
  grind
theorem sets_eq (t : S40) : seedcornref24_Sets.f t.f0 t.f1 t.f2 t.f3 t.f4 t.f5 t.f6 t.f7 = some (if sets t.f0 then t.f1 else -1) := by
  simp only [seedcornref24_Sets.f, sets]
  grind (splits := 20)

def setsD (t : S40) : Int := if sets t.f0 then t.f1 else -1
/-- Ahead of the instruction of a number a register is a copy of another one, by the instruction j. -/
def copyBy (o : List S40) (i : Nat) (v : Int) (j : Nat) : Prop :=
  j < i ∧ setsD (rd_T40 o j) = v ∧ (rd_T40 o j).f0 = 2 ∧ (rd_T40 o j).f2 ≠ v ∧ ∀ l, j < l → l < i → setsD (rd_T40 o (l : Nat)) ≠ v ∧ setsD (rd_T40 o (l : Nat)) ≠ (rd_T40 o j).f2

section
variable {o : List S40} {b1 b2 b3 b4 : Int}
theorem wrap_pred {m : Nat} (h : m ≤ 4611686018427387904) : wrap64 (((m + 1 : Nat) : Int) - 1) = (m : Int) := by rw [wrap_id] <;> omega
theorem copy_l1 {i : Nat} {u : S40} (hi : i ≤ o.length) (ho : o.length ≤ 1000000) : ∀ (n m : Nat), m + n = i → (∃ l, m ≤ l ∧ l < i ∧ setsD (rd_T40 o (l : Nat)) = u.f2) →
    Ev (fun k => seedcornref31_Copy.l1 k i m o b1 b2 b3 b4 u.f0 u.f1 u.f2 u.f3 u.f4 u.f5 u.f6 u.f7) false
  | 0, m, hm, ⟨l, h1, h2, _⟩ => by omega
  | n + 1, m, hm, ⟨l, h1, h2, h3⟩ => by
    refine Ev.step (fun k => by rw [seedcornref31_Copy.l1, if_pos (by omega), if_pos (by omega), if_pos (by omega)]) ?_
    refine Ev.at_ (fun k => sets_eq _) (Ev.ite (fun _ => Ev.now _) (fun hne => ?_))
    rw [wrap_nat (n := 1000000) (by omega) (by omega)]
    refine copy_l1 hi ho n (m + 1) (by omega) ⟨l, ?_, h2, h3⟩
    rcases Nat.lt_or_ge m l with h | h
    · omega
    · obtain rfl : l = m := by omega
      exact absurd h3 hne
theorem copy_l0 {i : Nat} {v : Int} (hi : i ≤ o.length) (ho : o.length ≤ 1000000) (hno : ∀ j, ¬ copyBy o i v j) : ∀ (m : Nat), m ≤ i → (∀ l, m ≤ l → l < i → setsD (rd_T40 o (l : Nat)) ≠ v) →
    Ev (fun k => seedcornref31_Copy.l0 k i v ((m : Int) - 1) o b1 b2 b3 b4) false
  | 0, _, _ => by
    refine Ev.step (fun k => by rw [seedcornref31_Copy.l0, if_neg (by omega)]) ?_
    exact Ev.now _
  | m + 1, hm, hv => by
    have e : ((m + 1 : Nat) : Int) - 1 = m := by omega
    rw [e]
    refine Ev.step (fun k => by rw [seedcornref31_Copy.l0, if_pos (by omega), if_pos (by omega), if_pos (by omega)]) ?_
    refine Ev.at_ (fun k => sets_eq _) (Ev.ite (fun hs => ?_) (fun hne => ?_))
    · refine Ev.ite (fun h2 => ?_) (fun h2 => ?_)
      · refine Ev.step (fun k => by rw [seedcornref31_Copy.j1]) (Ev.ite (fun _ => Ev.now _) (fun hA => ?_))
        have hA' : (rd_T40 o (m : Nat)).f2 ≠ v := by simpa using hA
        rw [wrap_nat (n := 1000000) (by omega) (by omega)]
        refine copy_l1 (u := rd_T40 o (m : Nat)) hi ho (i - (m + 1)) (m + 1) (by omega) ?_
        refine Classical.byContradiction fun hc => hno m ⟨by omega, hs, h2, hA', fun l h3 h4 => ⟨hv l (by omega) h4, fun h5 => hc ⟨l, by omega, h4, h5⟩⟩⟩
      · refine Ev.step (fun k => by rw [seedcornref31_Copy.j1]) (Ev.pos rfl (Ev.now _))
    · have := copy_l0 hi ho hno m (by omega) (fun l h1 h2 => by
        rcases Nat.lt_or_ge m l with h | h
        · exact hv l (by omega) h2
        · obtain rfl : l = m := by omega
          exact hne)
      rwa [wrap_id (x := (m : Int) - 1) (by omega) (by omega)]
theorem copy_ev {i : Nat} {v : Int} (hi : i ≤ o.length) (ho : o.length ≤ 1000000) (hno : ∀ j, ¬ copyBy o i v j) : Ev (fun k => seedcornref31_Copy.f k o b1 b2 b3 b4 i v) false := by
  have := copy_l0 (b1 := b1) (b2 := b2) (b3 := b3) (b4 := b4) hi ho hno i (Nat.le_refl _) (fun l h1 h2 => by omega)
  rw [← wrap_id (x := (i : Int) - 1) (by omega) (by omega)] at this
  exact this

theorem done_l1 {i : Nat} {us : List Int} (hi : i ≤ o.length) (ho : o.length ≤ 1000000) (hus : us.length ≤ 2) (hno : ∀ v ∈ us, ∀ j, ¬ copyBy o i v j) (hnext : Ev (fun k => seedcornref31_Done.l0 k (i + 1 : Nat) o b1 b2 b3 b4) true) : ∀ (n m : Nat), m + n = us.length →
    Ev (fun k => seedcornref31_Done.l1 k i us m o b1 b2 b3 b4) true
  | 0, m, hm => by
    refine Ev.step (fun k => by rw [seedcornref31_Done.l1, if_neg (by omega), wrap_nat (n := 1000001) (by omega) (by omega)]) ?_
    exact hnext
  | n + 1, m, hm => by
    have hmem : rd us m ∈ us := by
      unfold rd
      rw [Int.toNat_natCast, List.getD_eq_getElem?_getD, List.getElem?_eq_getElem (show m < us.length by omega)]
      exact List.getElem_mem _
    refine Ev.step (fun k => by rw [seedcornref31_Done.l1, if_pos (by omega), if_pos (by omega), wrap_nat (n := 2) (by omega) (by omega)]) ?_
    exact Ev.bind (copy_ev hi ho (hno _ hmem)) (Ev.neg (by simp) (done_l1 hi ho hus hno hnext n (m + 1) (by omega)))
theorem done_l0 (ho : o.length ≤ 1000000) (hr : ∀ i, i < o.length → ∀ v ∈ usesL (rd_T40 o (i : Nat)), ∀ j, ¬ copyBy o i v j) (he : b1 = 2 → ∀ j, ¬ copyBy o o.length b2 j) : ∀ (n i : Nat), i + n = o.length + 1 →
    Ev (fun k => seedcornref31_Done.l0 k i o b1 b2 b3 b4) true
  | 0, i, hi => by
    refine Ev.step (fun k => by rw [seedcornref31_Done.l0, if_neg (by omega)]) ?_
    exact Ev.now _
  | n + 1, i, hi => by
    have hnext := done_l0 ho hr he n (i + 1) (by omega)
    have hj : ∀ us : List Int, us.length ≤ 2 → (∀ v ∈ us, ∀ j, ¬ copyBy o i v j) → Ev (fun k => seedcornref31_Done.j1 k i us o b1 b2 b3 b4) true := fun us hus hno => by
      refine Ev.step (fun k => by rw [seedcornref31_Done.j1]) ?_
      exact done_l1 (by omega) ho hus hno hnext us.length 0 (by omega)
    refine Ev.step (fun k => by rw [seedcornref31_Done.l0, if_pos (by omega)]) ?_
    refine Ev.ite (fun hlt => ?_) (fun hge => ?_)
    · refine Ev.pos (by omega) (Ev.bind (ev_after 1 (uses_at _)) (hj _ ?_ (hr i (by omega))))
      unfold usesL
      split
      · simp
      · split <;> simp
    · obtain rfl : i = o.length := by omega
      refine Ev.ite (fun h2 => hj _ (by simp) ?_) (fun h2 => hj _ (by simp) (by simp))
      intro v hv
      obtain rfl : v = b2 := by simpa using hv
      exact he h2
end

/-! ### What the copies are at an instruction -/
def stAt : List Int → List S40 → Nat → List Int
  | c, _, 0 => c
  | c, [], _ + 1 => c
  | c, t :: l, i + 1 => stAt (insC c t) l i
theorem rd40_zero {t : S40} {l : List S40} : rd_T40 (t :: l) (0 : Nat) = t := rfl
theorem rd40_succ {t : S40} {l : List S40} {i : Nat} : rd_T40 (t :: l) (i + 1 : Nat) = rd_T40 l (i : Nat) := by
  unfold rd_T40
  rw [Int.toNat_natCast, Int.toNat_natCast]
  rfl
theorem stAt_succ : ∀ (l : List S40) (c : List Int) (i : Nat), i < l.length → stAt c l (i + 1) = insC (stAt c l i) (rd_T40 l (i : Nat))
  | [], _, _, h => by simp at h
  | t :: l, c, 0, _ => by simp only [stAt]; rw [rd40_zero]
  | t :: l, c, i + 1, h => by
    rw [stAt, stAt_succ l (insC c t) i (by simpa using h), stAt, rd40_succ]
theorem run_at : ∀ (l : List S40) (c : List Int) (i : Nat), i < l.length → rd_T40 (run c l).1 (i : Nat) = insT (stAt c l i) (rd_T40 l (i : Nat))
  | [], _, _, h => by simp at h
  | t :: l, c, 0, _ => by simp only [run, stAt]; rw [rd40_zero, rd40_zero]
  | t :: l, c, i + 1, h => by
    simp only [run, stAt]
    rw [rd40_succ, rd40_succ]
    exact run_at l (insC c t) i (by simpa using h)
theorem run_end : ∀ (l : List S40) (c : List Int), (run c l).2 = stAt c l l.length
  | [], _ => rfl
  | t :: l, c => by simp only [run, List.length_cons, stAt]; exact run_end l _
theorem okC_at {regs : Int} : ∀ (l : List S40) {c : List Int}, okC regs c → (∀ t ∈ l, okT regs t) → ∀ i, okC regs (stAt c l i)
  | _, _, h, _, 0 => by rw [stAt]; exact h
  | [], _, h, _, _ + 1 => by rw [stAt]; exact h
  | t :: l, _, h, hl, i + 1 => by rw [stAt]; exact okC_at l (okC_ins h (hl t (by simp))) (fun u hu => hl u (by simp [hu])) i

section
variable {regs : Int} {l : List S40}
theorem insC_rd {c : List Int} (hc : okC regs c) {t : S40} (ht : okT regs t) {v a : Int} (hv : inR regs v) (_ha : a ≠ -1) (hr : rd c v = a) (h1 : setsD t ≠ v) (h2 : setsD t ≠ a) : rd (insC c t) v = a := by
  unfold insC
  by_cases hs : sets t.f0 = true
  · rw [setsD, if_pos hs] at h1 h2
    have hset : ∀ f, rd (setM c t.f1 f) v = a := fun f => by
      rw [rd_setM (hc.inL (ht.d hs)) (hc.inL hv), if_neg (Ne.symm h1), hr, if_neg (Ne.symm h2)]
    split
    · exact hset _
    · exact hset _
  · have h2 : ¬ t.f0 = 2 := fun e => hs (by rw [e]; rfl)
    rw [if_neg h2, if_neg hs]
    exact hr
theorem copy_known (hl : ∀ t ∈ l, okT regs t) : ∀ (i : Nat), i ≤ l.length → ∀ v, inR regs v → ∀ j, copyBy (run (none_ regs) l).1 i v j → rd (stAt (none_ regs) l i) v = (rd_T40 (run (none_ regs) l).1 (j : Nat)).f2 ∧ (rd_T40 (run (none_ regs) l).1 (j : Nat)).f2 ≠ -1
  | 0, _, _, _, j, h => by have := h.1; omega
  | i + 1, hi, v, hv, j, h => by
    have hi' : i < l.length := by omega
    have hc := okC_at l okC_none hl i
    have ht := hl _ (rd40_mem hi')
    obtain ⟨h1, h2, h3, h4, h5⟩ := h
    have hout := run_at l (none_ regs) i hi'
    rw [stAt_succ l _ i hi']
    by_cases hj : j = i
    · subst hj
      rw [hout] at h2 h3 h4 ⊢
      generalize rd_T40 l (j : Nat) = t at *
      generalize stAt (none_ regs) l j = c at *
      have hop : t.f0 = 2 := h3
      have hs : sets t.f0 = true := by rw [hop]; rfl
      have hd : t.f1 = v := by
        unfold setsD at h2
        rw [if_pos (show sets (insT c t).f0 = true from hs)] at h2
        exact h2
      have ha : usesA t.f0 = true := by rw [hop]; rfl
      have hA : (insT c t).f2 = ofM c t.f2 := by show (if usesA t.f0 = true then _ else _) = _; rw [if_pos ha]
      rw [hA] at h4 ⊢
      refine ⟨?_, ?_⟩
      · rw [insC, if_pos hop, rd_setM (hc.inL (ht.d hs)) (hc.inL hv), if_pos hd.symm, if_neg (by rw [hd]; exact h4)]
      · have := (ofM_range hc (ht.a ha)).1
        unfold inR at this
        omega
    · obtain ⟨hl1, hl2⟩ := h5 i (by omega) (by omega)
      obtain ⟨ih, ihn⟩ := copy_known hl i (by omega) v hv j ⟨by omega, h2, h3, h4, fun m h6 h7 => h5 m h6 (by omega)⟩
      rw [hout] at hl1 hl2
      exact ⟨insC_rd hc ht hv ihn ih hl1 hl2, ihn⟩
/-- A register that is put in the place of another one is no copy. -/
theorem no_copy (hl : ∀ t ∈ l, okT regs t) {i : Nat} (hi : i ≤ l.length) {v : Int} (hv : inR regs v) (j : Nat) : ¬ copyBy (run (none_ regs) l).1 i (ofM (stAt (none_ regs) l i) v) j := by
  intro h
  have hc := okC_at l okC_none hl i
  obtain ⟨h1, h2⟩ := ofM_range hc hv
  obtain ⟨h3, h4⟩ := copy_known hl i hi _ h1 j h
  rw [h2] at h3
  exact h4 h3.symm
end

theorem done_block {regs : Int} {b : S37} (hb : okB regs b) (hn : b.f0.length ≤ 1000000) : Ev (fun k => seedcornref31_Done.f k (blockM regs b).f0 (blockM regs b).f1 (blockM regs b).f2 (blockM regs b).f3 (blockM regs b).f4) true := by
  have hlen : (blockM regs b).f0.length = b.f0.length := run_length _ _
  refine done_l0 (by rw [hlen]; exact hn) (fun i hi v hv j => ?_) (fun h2 j => ?_) (b.f0.length + 1) 0 (by rw [hlen]; omega)
  · rw [hlen] at hi
    have ht := hb.1 _ (rd40_mem hi)
    have hv' : v ∈ usesL (insT (stAt (none_ regs) b.f0 i) (rd_T40 b.f0 (i : Nat))) := by
      rw [← run_at b.f0 (none_ regs) i hi]
      exact hv
    have key : ∃ u, inR regs u ∧ v = ofM (stAt (none_ regs) b.f0 i) u := by
      generalize stAt (none_ regs) b.f0 i = c at hv'
      generalize rd_T40 b.f0 (i : Nat) = t at *
      have hA : usesA t.f0 = true → (insT c t).f2 = ofM c t.f2 := fun ha => by show (if usesA t.f0 = true then _ else _) = _; rw [if_pos ha]
      have hB : usesB t.f0 = true → (insT c t).f3 = ofM c t.f3 := fun hb => by show (if usesB t.f0 = true then _ else _) = _; rw [if_pos hb]
      unfold usesL at hv'
      by_cases hb' : usesB t.f0 = true
      · have ha : usesA t.f0 = true := by simp [usesA, usesB] at hb' ⊢; omega
        rw [if_pos (show usesB (insT c t).f0 = true from hb'), hA ha, hB hb'] at hv'
        rcases List.mem_cons.1 hv' with rfl | hv'
        · exact ⟨_, ht.a ha, rfl⟩
        · obtain rfl := List.mem_singleton.1 hv'
          exact ⟨_, ht.b hb', rfl⟩
      · rw [if_neg (show ¬ usesB (insT c t).f0 = true from hb')] at hv'
        by_cases ha : usesA t.f0 = true
        · rw [if_pos (show usesA (insT c t).f0 = true from ha), hA ha] at hv'
          obtain rfl := List.mem_singleton.1 hv'
          exact ⟨_, ht.a ha, rfl⟩
        · rw [if_neg (show ¬ usesA (insT c t).f0 = true from ha)] at hv'
          simp at hv'
    obtain ⟨u, hu, rfl⟩ := key
    exact no_copy hb.1 (by omega) hu j
  · have h2' : b.f1 = 2 := h2
    have e : (blockM regs b).f2 = ofM (stAt (none_ regs) b.f0 b.f0.length) b.f2 := by
      show (if b.f1 = 2 then _ else _) = _
      rw [if_pos h2', run_end]
    rw [e, hlen]
    exact no_copy hb.1 (Nat.le_refl _) (hb.2 h2') j

end Go.Proofs.Ytcfagmdopkginaa.Plain
