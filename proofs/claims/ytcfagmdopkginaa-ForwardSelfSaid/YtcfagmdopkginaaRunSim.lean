/- A program of forwarded functions runs as the old one does, steps too; plain Lean. -/
import Derived.Test.YtcfagmdopkginaaRunG
import Derived.Test.YtcfagmdopkginaaFwdAw
import Derived.Test.YtcfagmdopkginaaPFx27
namespace Go.Proofs.Ytcfagmdopkginaa.RunW
open Go.RowKit Go.Proofs.YtcfagmdopkginaaW.PrintWords Go.Proofs.Ytcfagmdopkginaa.PF Go.Proofs.Ytcfagmdopkginaa.Plain Go.Proofs.Ytcfagmdopkginaa.Args

theorem rdOf_set {c : List Int} {d v x : Int} (hd : inR c.length d) (hv : 0 ≤ v) : rdOf 0 (c.set d.toNat x) v = if v = d then x else rdOf 0 c v := rd_set hd hv

/-- A register's copy has the same value. -/
def Inv (R : Int) (c regs : List Int) : Prop := ∀ v, inR R v → rdOf 0 regs (ofM c v) = rdOf 0 regs v
theorem inv_none {R : Int} {regs : List Int} : Inv R (none_ R) regs := fun v hv => by
  have h0 : rd (none_ R) v = -1 := by
    have := (okC_none (regs := R)).rng v hv
    unfold rd none_ inR at *
    have h : v.toNat < (List.replicate R.toNat (-1 : Int)).length := by simp; omega
    simp [List.getD_eq_getElem?_getD, List.getElem?_eq_getElem h]
  rw [ofM, if_pos h0]

theorem ofM_setM' {R : Int} {c : List Int} (h : okC R c) {d f v : Int} (hd : inR R d) (hv : inR R v) :
    ofM (setM c d f) v = if v = d then (if f = d then d else if f = -1 then d else f) else if rd c v = d then v else ofM c v := by
  unfold ofM
  rw [rd_setM (h.inL hd) (h.inL hv)]
  have : d ≠ -1 := by unfold inR at hd; omega
  grind

theorem inv_set {R : Int} {c regs : List Int} (h : okC R c) (hi : Inv R c regs) (hl : (regs.length : Int) = R) {d f x : Int} (hd : inR R d) (hf : f = -1 ∨ (inR R f ∧ rdOf 0 regs f = x)) : Inv R (setM c d f) (regs.set d.toNat x) := fun v hv => by
  have hd' : inR regs.length d := by rw [hl]; exact hd
  rw [ofM_setM' h hd hv]
  by_cases hvd : v = d
  · subst hvd
    rw [if_pos rfl]
    split
    · rfl
    · rename_i hfd
      split
      · rfl
      · rename_i hf1
        rcases hf with hf | ⟨hfr, hfx⟩
        · exact absurd hf hf1
        · rw [rdOf_set hd' hfr.1, if_neg hfd, rdOf_set hd' hv.1, if_pos rfl, hfx]
  · rw [if_neg hvd]
    split
    · rfl
    · rename_i hcd
      have hm := hi v hv
      rw [rdOf_set hd' hv.1, if_neg hvd, ← hm]
      have hr := (ofM_range h hv).1
      rw [rdOf_set hd' hr.1]
      split
      · rename_i he
        unfold ofM at he
        split at he
        · exact absurd he hvd
        · exact absurd he hcd
      · rfl

theorem oneM_ins {R : Int} {c regs : List Int} {t : S40} (ht : okT R t) (hi : Inv R c regs) (inp : List Int) (s : RS) : oneM inp (insT c t) s regs = oneM inp t s regs := by
  have hA : usesA t.f0 = true → rdOf 0 regs (insT c t).f2 = rdOf 0 regs t.f2 := fun h => by
    show rdOf 0 regs (if usesA t.f0 then ofM c t.f2 else t.f2) = _
    rw [if_pos h, hi _ (ht.a h)]
  have hB : usesB t.f0 = true → rdOf 0 regs (insT c t).f3 = rdOf 0 regs t.f3 := fun h => by
    show rdOf 0 regs (if usesB t.f0 then ofM c t.f3 else t.f3) = _
    rw [if_pos h, hi _ (ht.b h)]
  unfold oneM
  show (if t.f0 = 1 then some (s, regs.set t.f1.toNat t.f7) else if t.f0 = 2 then some (s, regs.set t.f1.toNat (rdOf 0 regs (insT c t).f2)) else if t.f0 = 3 then (ap t.f4 (rdOf 0 regs (insT c t).f2) (rdOf 0 regs (insT c t).f3)).bind _ else if t.f0 = 4 then _ else if t.f0 = 5 then some ({ s with words := s.words.set t.f5.toNat (rdOf 0 regs (insT c t).f2) }, regs) else if t.f0 = 6 then (if t.f6 ≤ rdOf 0 regs (insT c t).f2 then _ else some (s, regs.set t.f1.toNat (rdOf 0 s.words (t.f5 + rdOf 0 regs (insT c t).f2)))) else if t.f0 = 7 then (if t.f6 ≤ rdOf 0 regs (insT c t).f2 then _ else some ({ s with words := s.words.set (t.f5 + rdOf 0 regs (insT c t).f2).toNat (rdOf 0 regs (insT c t).f3) }, regs)) else if t.f0 = 8 then _ else if t.f0 = 9 then (if 65536 ≤ s.out.length then _ else some ({ s with out := s.out ++ [rdOf 0 regs (insT c t).f2 % 256] }, regs)) else _) = _
  by_cases h1 : t.f0 = 1
  · simp only [if_pos h1]
  simp only [if_neg h1]
  by_cases h2 : t.f0 = 2
  · simp only [if_pos h2]; rw [hA (by rw [h2]; rfl)]
  simp only [if_neg h2]
  by_cases h3 : t.f0 = 3
  · simp only [if_pos h3]; rw [hA (by rw [h3]; rfl), hB (by rw [h3]; rfl)]; rfl
  simp only [if_neg h3]
  by_cases h4 : t.f0 = 4
  · simp only [if_pos h4]; rfl
  simp only [if_neg h4]
  by_cases h5 : t.f0 = 5
  · simp only [if_pos h5]; rw [hA (by rw [h5]; rfl)]
  simp only [if_neg h5]
  by_cases h6 : t.f0 = 6
  · simp only [if_pos h6]; rw [hA (by rw [h6]; rfl)]
  simp only [if_neg h6]
  by_cases h7 : t.f0 = 7
  · simp only [if_pos h7]; rw [hA (by rw [h7]; rfl), hB (by rw [h7]; rfl)]
  simp only [if_neg h7]
  by_cases h8 : t.f0 = 8
  · simp only [if_pos h8]; rfl
  simp only [if_neg h8]
  by_cases h9 : t.f0 = 9
  · simp only [if_pos h9]; rw [hA (by rw [h9]; rfl)]
  simp only [if_neg h9]

/-- What an instruction that goes on does to the copies. -/
theorem oneM_inv {R : Int} {c regs : List Int} {t : S40} (hc : okC R c) (ht : okT R t) (hi : Inv R c regs) (hl : (regs.length : Int) = R) {inp : List Int} {s s' : RS} {r' : List Int} (hm : oneM inp t s regs = some (s', r')) (hf : s'.fin = 0) : Inv R (insC c t) r' ∧ (r'.length : Int) = R := by
  have hset : ∀ x : Int, sets t.f0 = true → t.f0 ≠ 2 → r' = regs.set t.f1.toNat x → Inv R (insC c t) r' ∧ (r'.length : Int) = R := fun x hs h2 e => by
    subst e
    rw [insC, if_neg h2, if_pos hs]
    exact ⟨inv_set hc hi hl (ht.d hs) (.inl rfl), by simpa using hl⟩
  have hno : sets t.f0 = false → r' = regs → Inv R (insC c t) r' ∧ (r'.length : Int) = R := fun hs e => by
    subst e
    have h2 : t.f0 ≠ 2 := fun e => by rw [e] at hs; cases hs
    rw [insC, if_neg h2, if_neg (by rw [hs]; simp)]
    exact ⟨hi, hl⟩
  unfold oneM at hm
  by_cases h1 : t.f0 = 1
  · rw [if_pos h1] at hm
    obtain ⟨_, e⟩ := by simpa using hm
    exact hset _ (by rw [h1]; rfl) (by omega) e.symm
  rw [if_neg h1] at hm
  by_cases h2 : t.f0 = 2
  · rw [if_pos h2] at hm
    obtain ⟨_, e⟩ := by simpa using hm
    subst e
    have ha := ht.a (by rw [h2]; rfl)
    rw [insC, if_pos h2]
    exact ⟨inv_set hc hi hl (ht.d (by rw [h2]; rfl)) (.inr ⟨(ofM_range hc ha).1, hi _ ha⟩), by simpa using hl⟩
  rw [if_neg h2] at hm
  by_cases h3 : t.f0 = 3
  · rw [if_pos h3] at hm
    obtain ⟨⟨v, e⟩, _, hm⟩ := Option.bind_eq_some_iff.1 hm
    dsimp only at hm
    by_cases he : e = 0
    · rw [if_pos he] at hm
      obtain ⟨_, e⟩ := by simpa using hm
      exact hset _ (by rw [h3]; rfl) h2 e.symm
    · rw [if_neg he] at hm
      obtain ⟨e, _⟩ := by simpa using hm
      subst e
      simp at hf
  rw [if_neg h3] at hm
  by_cases h4 : t.f0 = 4
  · rw [if_pos h4] at hm
    obtain ⟨_, e⟩ := by simpa using hm
    exact hset _ (by rw [h4]; rfl) h2 e.symm
  rw [if_neg h4] at hm
  by_cases h5 : t.f0 = 5
  · rw [if_pos h5] at hm
    obtain ⟨_, e⟩ := by simpa using hm
    exact hno (by rw [h5]; rfl) e.symm
  rw [if_neg h5] at hm
  by_cases h6 : t.f0 = 6
  · rw [if_pos h6] at hm
    split at hm
    · obtain ⟨e, _⟩ := by simpa using hm
      subst e
      simp at hf
    · obtain ⟨_, e⟩ := by simpa using hm
      exact hset _ (by rw [h6]; rfl) h2 e.symm
  rw [if_neg h6] at hm
  by_cases h7 : t.f0 = 7
  · rw [if_pos h7] at hm
    split at hm
    · obtain ⟨e, _⟩ := by simpa using hm
      subst e
      simp at hf
    · obtain ⟨_, e⟩ := by simpa using hm
      exact hno (by rw [h7]; rfl) e.symm
  rw [if_neg h7] at hm
  by_cases h8 : t.f0 = 8
  · rw [if_pos h8] at hm
    split at hm
    · obtain ⟨_, e⟩ := by simpa using hm
      exact hset _ (by rw [h8]; rfl) h2 e.symm
    · obtain ⟨_, e⟩ := by simpa using hm
      exact hset _ (by rw [h8]; rfl) h2 e.symm
  rw [if_neg h8] at hm
  by_cases h9 : t.f0 = 9
  · rw [if_pos h9] at hm
    split at hm
    · obtain ⟨e, _⟩ := by simpa using hm
      subst e
      simp at hf
    · obtain ⟨_, e⟩ := by simpa using hm
      exact hno (by rw [h9]; rfl) e.symm
  rw [if_neg h9] at hm
  obtain ⟨_, e⟩ := by simpa using hm
  refine hno ?_ e.symm
  simp [sets]
  omega

def fwdF (f : S24) : S24 := ⟨f.f0, f.f1.map (blockM f.f0)⟩
/-- The program of the forwarded functions. -/
def fwdC (c : Cf) : Cf := ⟨c.fs.map fwdF, c.inp, c.fuel⟩

/-- What is asked of a program here. -/
def okFs (c : Cf) : Prop := ∀ f ∈ c.fs, 0 ≤ f.f0 ∧ ∀ b ∈ f.f1, okB f.f0 b

structure Sim (c : Cf) (k : Nat) : Prop where
  ins : ∀ (R : Int) (l : List S40), (∀ t ∈ l, okT R t) → ∀ (co : List Int), okC R co → ∀ (s : RS) (r : List Int), s.fin = 0 → (r.length : Int) = R → Inv R co r → ∀ (b : Bool) (s' : RS) (r' : List Int), exec c k (.ins l r) s = some (b, s', r') →
    exec (fwdC c) k (.ins (run co l).1 r) s = some (b, s', r') ∧ (b = false → s'.fin = 0 ∧ (r'.length : Int) = R ∧ Inv R (run co l).2 r')
  blk : ∀ (R : Int) (bs : List S37), (∀ b ∈ bs, okB R b) → ∀ (at_ : Int) (s : RS) (r : List Int), s.fin = 0 → (r.length : Int) = R → ∀ x, exec c k (.blk bs at_ r) s = some x → exec (fwdC c) k (.blk (bs.map (blockM R)) at_ r) s = some x
  fn : ∀ (i : Int) (s : RS), s.fin = 0 → ∀ x, exec c k (.fn i) s = some x → exec (fwdC c) k (.fn i) s = some x

theorem rd37_map {bs : List S37} {i : Int} {f : S37 → S37} (hf : f z37 = z37) : rd_T37 (bs.map f) i = f (rd_T37 bs i) := by
  unfold rd_T37
  simp only [List.getD_eq_getElem?_getD, List.getElem?_map]
  cases bs[i.toNat]? with
  | none => exact hf.symm
  | some b => rfl
theorem rd37_okB {R : Int} {bs : List S37} (h : ∀ b ∈ bs, okB R b) (i : Int) : okB R (rd_T37 bs i) := by
  unfold rd_T37
  rw [List.getD_eq_getElem?_getD]
  cases hb : bs[i.toNat]? with
  | none => exact ⟨fun t ht => (by cases ht), fun h2 => (by cases h2)⟩
  | some b => exact h b (List.mem_of_getElem? hb)
theorem fnAt_map {fs : List S24} (i : Int) : fnAt (fs.map fwdF) i = fwdF (fnAt fs i) := by
  unfold fnAt rd_T24
  simp only [List.getD_eq_getElem?_getD, List.getElem?_map]
  cases fs[i.toNat]? with
  | none => rfl
  | some b => rfl
theorem fnAt_ok {c : Cf} (h : okFs c) (i : Int) : 0 ≤ (fnAt c.fs i).f0 ∧ ∀ b ∈ (fnAt c.fs i).f1, okB (fnAt c.fs i).f0 b := by
  unfold fnAt rd_T24
  rw [List.getD_eq_getElem?_getD]
  cases hb : c.fs[i.toNat]? with
  | none => exact ⟨Int.le_refl _, fun b hb => (by cases hb)⟩
  | some f => exact h f (List.mem_of_getElem? hb)

theorem sim_all {c : Cf} (hc : okFs c) : ∀ k, Sim c k
  | 0 => ⟨fun _ _ _ _ _ _ _ _ _ _ _ _ _ h => by simp [exec] at h, fun _ _ _ _ _ _ _ _ _ h => by simp [exec] at h, fun _ _ _ _ h => by simp [exec] at h⟩
  | k + 1 => by
    have ih := sim_all hc k
    refine ⟨?_, ?_, ?_⟩
    · intro R l hl co hco s r hs hr hi b s' r' h
      cases l with
      | nil =>
        rw [exec] at h
        have e := Option.some.inj h
        injection e with e1 e2
        injection e2 with e2 e3
        subst e1 e2 e3
        exact ⟨by rw [run, exec], fun _ => ⟨hs, hr, hi⟩⟩
      | cons t l =>
        have ht := hl t (by simp)
        rw [exec] at h
        rw [run, exec]
        show (if c.fuel ≤ s.st then _ else _) = _ ∧ _
        by_cases hfu : c.fuel ≤ s.st
        · rw [if_pos hfu] at h ⊢
          refine ⟨h, fun hb => ?_⟩
          have e := Option.some.inj h
          injection e with e1 _
          rw [← e1] at hb
          cases hb
        · rw [if_neg hfu] at h ⊢
          obtain ⟨⟨s1, r1⟩, hone, hrs⟩ := Option.bind_eq_some_iff.1 h
          dsimp only at hrs
          have hone' : (if (insT co t).f0 = 10 then (exec (fwdC c) k (.fn (insT co t).f5) (tick s)).bind fun r_ => some (r_.2.1, r) else oneM (fwdC c).inp (insT co t) (tick s) r) = some (s1, r1) := by
            show (if t.f0 = 10 then (exec (fwdC c) k (.fn t.f5) (tick s)).bind fun r_ => some (r_.2.1, r) else oneM c.inp (insT co t) (tick s) r) = some (s1, r1)
            by_cases h10 : t.f0 = 10
            · rw [if_pos h10] at hone ⊢
              obtain ⟨x, hx, hx2⟩ := Option.bind_eq_some_iff.1 hone
              rw [ih.fn _ (tick s) hs _ hx]
              exact hx2
            · rw [if_neg h10] at hone ⊢
              rw [oneM_ins ht hi]
              exact hone
          rw [hone', Option.bind_some]
          dsimp only
          by_cases hf1 : s1.fin = 0
          · rw [if_pos hf1] at hrs ⊢
            have hinv : Inv R (insC co t) r1 ∧ (r1.length : Int) = R := by
              by_cases h10 : t.f0 = 10
              · rw [if_pos h10] at hone
                obtain ⟨x, hx, hx2⟩ := Option.bind_eq_some_iff.1 hone
                have e := Option.some.inj hx2
                injection e with _ e
                subst e
                rw [insC, if_neg (by omega), if_neg (by rw [h10]; simp [sets])]
                exact ⟨hi, hr⟩
              · rw [if_neg h10] at hone
                exact oneM_inv hco ht hi hr hone hf1
            exact ih.ins R l (fun u hu => hl u (by simp [hu])) (insC co t) (okC_ins hco ht) s1 r1 hf1 hinv.2 hinv.1 b s' r' hrs
          · rw [if_neg hf1] at hrs ⊢
            refine ⟨hrs, fun hb => ?_⟩
            have e := Option.some.inj hrs
            injection e with e1 _
            rw [← e1] at hb
            cases hb
    · intro R bs hbs at_ s r hs hr x h
      have hR : 0 ≤ R := by omega
      have hb := rd37_okB hbs at_
      have hz : blockM R z37 = z37 := rfl
      rw [exec] at h
      rw [exec, rd37_map hz]
      obtain ⟨⟨b, s1, r1⟩, hin, hrest⟩ := Option.bind_eq_some_iff.1 h
      obtain ⟨h1, h2⟩ := ih.ins R _ hb.1 (none_ R) okC_none s r hs hr inv_none b s1 r1 hin
      have h1' : exec (fwdC c) k (.ins (blockM R (rd_T37 bs at_)).f0 r) s = some (b, s1, r1) := h1
      rw [h1', Option.bind_some]
      dsimp only at hrest ⊢
      cases b with
      | true => exact hrest
      | false =>
        obtain ⟨hf1, hl1, hi1⟩ := h2 rfl
        rw [if_neg (by simp)] at hrest ⊢
        show (if c.fuel ≤ s1.st then _ else if (rd_T37 bs at_).f1 = 3 then _ else _) = _
        by_cases hfu : c.fuel ≤ s1.st
        · rw [if_pos hfu] at hrest ⊢
          exact hrest
        · rw [if_neg hfu] at hrest ⊢
          by_cases h3 : (rd_T37 bs at_).f1 = 3
          · rw [if_pos h3] at hrest ⊢
            exact hrest
          · rw [if_neg h3] at hrest ⊢
            have hnx : nextB (blockM R (rd_T37 bs at_)) r1 = nextB (rd_T37 bs at_) r1 := by
              unfold nextB
              by_cases h2 : (rd_T37 bs at_).f1 = 2
              · have e : rdOf 0 r1 (blockM R (rd_T37 bs at_)).f2 = rdOf 0 r1 (rd_T37 bs at_).f2 := by
                  show rdOf 0 r1 (if (rd_T37 bs at_).f1 = 2 then _ else _) = _
                  rw [if_pos h2]
                  exact hi1 _ (hb.2 h2)
                rw [e]
                rfl
              · rw [if_neg (fun hh => h2 hh.1), if_neg (fun hh => h2 hh.1)]
                rfl
            rw [hnx]
            exact ih.blk R bs hbs _ (tick s1) r1 hf1 hl1 x hrest
    · intro i s hs x h
      obtain ⟨h0, hb⟩ := fnAt_ok hc i
      rw [exec] at h
      rw [exec]
      show exec (fwdC c) k (.blk (fnAt (c.fs.map fwdF) i).f1 0 (zeros (fnAt (c.fs.map fwdF) i).f0)) s = some x
      rw [fnAt_map]
      exact ih.blk (fnAt c.fs i).f0 (fnAt c.fs i).f1 hb 0 s _ hs (okR_zeros h0).1 x h
end Go.Proofs.Ytcfagmdopkginaa.RunW
