/- A program with copies of registers to themselves ahead of its blocks runs as the old one does, with the double fuel; plain Lean. -/
import Derived.Test.YtcfagmdopkginaaRunSim
namespace Go.Proofs.Ytcfagmdopkginaa.RunW
open Go.RowKit Go.Proofs.YtcfagmdopkginaaW.PrintWords Go.Proofs.Ytcfagmdopkginaa.PF Go.Proofs.Ytcfagmdopkginaa.Plain Go.Proofs.Ytcfagmdopkginaa.Args

/-- The register, of so many. -/
def selfV (two R : Int) : Int := Int.tmod two R
def selfI (v : Int) : S40 := ⟨2, v, v, 0, 0, 0, 0, 0⟩
def selfB (two R : Int) (b : S37) : S37 := if 0 < R then ⟨selfI (selfV two R) :: b.f0, b.f1, b.f2, b.f3, b.f4⟩ else b
def selfF (two : Int) (f : S24) : S24 := ⟨f.f0, f.f1.map (selfB two f.f0)⟩
def selfC (two : Int) (c : Cf) : Cf := ⟨c.fs.map (selfF two), c.inp, 2 * c.fuel + 2⟩
/-- The same state, with other steps. -/
def at_ (s : RS) (n : Int) : RS := { s with st := n }

theorem self_set (r : List Int) (v : Int) : r.set v.toNat (rdOf 0 r v) = r := by
  unfold rdOf
  rw [List.getD_eq_getElem?_getD]
  by_cases h : v.toNat < r.length
  · rw [List.getElem?_eq_getElem h]
    exact List.set_getElem_self h
  · exact List.set_eq_of_length_le (by omega)
theorem oneM_at {inp : List Int} {t : S40} {s s1 : RS} {r r1 : List Int} {n : Int} (h : oneM inp t s r = some (s1, r1)) : oneM inp t (at_ s n) r = some (at_ s1 n, r1) ∧ s1.st = s.st := by
  unfold oneM at h ⊢
  by_cases h1 : t.f0 = 1
  · rw [if_pos h1] at h ⊢
    cases h
    exact ⟨rfl, rfl⟩
  rw [if_neg h1] at h ⊢
  by_cases h2 : t.f0 = 2
  · rw [if_pos h2] at h ⊢
    cases h
    exact ⟨rfl, rfl⟩
  rw [if_neg h2] at h ⊢
  by_cases h3 : t.f0 = 3
  · rw [if_pos h3] at h ⊢
    obtain ⟨x, hx, hx2⟩ := Option.bind_eq_some_iff.1 h
    rw [hx, Option.bind_some]
    by_cases hz : x.2 = 0
    · rw [if_pos hz] at hx2 ⊢
      cases hx2
      exact ⟨rfl, rfl⟩
    · rw [if_neg hz] at hx2 ⊢
      cases hx2
      exact ⟨rfl, rfl⟩
  rw [if_neg h3] at h ⊢
  by_cases h4 : t.f0 = 4
  · rw [if_pos h4] at h ⊢
    cases h
    exact ⟨rfl, rfl⟩
  rw [if_neg h4] at h ⊢
  by_cases h5 : t.f0 = 5
  · rw [if_pos h5] at h ⊢
    cases h
    exact ⟨rfl, rfl⟩
  rw [if_neg h5] at h ⊢
  by_cases h6 : t.f0 = 6
  · rw [if_pos h6] at h ⊢
    by_cases hz : t.f6 ≤ rdOf 0 r t.f2
    · rw [if_pos hz] at h ⊢
      cases h
      exact ⟨rfl, rfl⟩
    · rw [if_neg hz] at h ⊢
      cases h
      exact ⟨rfl, rfl⟩
  rw [if_neg h6] at h ⊢
  by_cases h7 : t.f0 = 7
  · rw [if_pos h7] at h ⊢
    by_cases hz : t.f6 ≤ rdOf 0 r t.f2
    · rw [if_pos hz] at h ⊢
      cases h
      exact ⟨rfl, rfl⟩
    · rw [if_neg hz] at h ⊢
      cases h
      exact ⟨rfl, rfl⟩
  rw [if_neg h7] at h ⊢
  by_cases h8 : t.f0 = 8
  · rw [if_pos h8] at h ⊢
    by_cases hz : (inp.length : Int) ≤ s.rd
    · rw [if_pos hz] at h
      rw [if_pos (show (inp.length : Int) ≤ (at_ s n).rd from hz)]
      cases h
      exact ⟨rfl, rfl⟩
    · rw [if_neg hz] at h
      rw [if_neg (show ¬ (inp.length : Int) ≤ (at_ s n).rd from hz)]
      cases h
      exact ⟨rfl, rfl⟩
  rw [if_neg h8] at h ⊢
  by_cases h9 : t.f0 = 9
  · rw [if_pos h9] at h ⊢
    by_cases hz : 65536 ≤ s.out.length
    · rw [if_pos hz] at h
      rw [if_pos (show 65536 ≤ (at_ s n).out.length from hz)]
      cases h
      exact ⟨rfl, rfl⟩
    · rw [if_neg hz] at h
      rw [if_neg (show ¬ 65536 ≤ (at_ s n).out.length from hz)]
      cases h
      exact ⟨rfl, rfl⟩
  rw [if_neg h9] at h ⊢
  cases h
  exact ⟨rfl, rfl⟩

theorem selfF_map {two : Int} {fs : List S24} (i : Int) : fnAt (fs.map (selfF two)) i = selfF two (fnAt fs i) := by
  unfold fnAt rd_T24
  simp only [List.getD_eq_getElem?_getD, List.getElem?_map]
  cases fs[i.toNat]? with
  | none => rfl
  | some b => rfl
theorem selfB_at {two R : Int} {bs : List S37} (i : Int) : rd_T37 (bs.map (selfB two R)) i = selfB two R (rd_T37 bs i) ∨ rd_T37 (bs.map (selfB two R)) i = rd_T37 bs i := by
  unfold rd_T37
  simp only [List.getD_eq_getElem?_getD, List.getElem?_map]
  cases bs[i.toNat]? with
  | none => exact .inr rfl
  | some b => exact .inl rfl

structure SimS (two : Int) (c : Cf) (k : Nat) : Prop where
  ins : ∀ (l : List S40) (r : List Int) (s : RS) (n : Int), s.fin = 0 → n ≤ 2 * s.st + 1 → ∀ (b : Bool) (s' : RS) (r' : List Int), exec c k (.ins l r) s = some (b, s', r') → s'.fin ≠ 5 →
    ∃ n', n' ≤ 2 * s'.st + 1 ∧ exec (selfC two c) (2 * k) (.ins l r) (at_ s n) = some (b, at_ s' n', r') ∧ (b = false → s'.fin = 0)
  blk : ∀ (R : Int) (bs : List S37) (i : Int) (r : List Int) (s : RS) (n : Int), s.fin = 0 → n ≤ 2 * s.st → ∀ (b : Bool) (s' : RS) (r' : List Int), exec c k (.blk bs i r) s = some (b, s', r') → s'.fin ≠ 5 →
    ∃ n', n' ≤ 2 * s'.st + 1 ∧ exec (selfC two c) (2 * k) (.blk (bs.map (selfB two R)) i r) (at_ s n) = some (b, at_ s' n', r')
  fn : ∀ (i : Int) (s : RS) (n : Int), s.fin = 0 → n ≤ 2 * s.st → ∀ (b : Bool) (s' : RS) (r' : List Int), exec c k (.fn i) s = some (b, s', r') → s'.fin ≠ 5 →
    ∃ n', n' ≤ 2 * s'.st + 1 ∧ exec (selfC two c) (2 * k) (.fn i) (at_ s n) = some (b, at_ s' n', r')

theorem ins_false {c : Cf} : ∀ (k : Nat) (l : List S40) (r : List Int) (s s1 : RS) (r1 : List Int), s.fin = 0 → exec c k (.ins l r) s = some (false, s1, r1) → s1.fin = 0
  | 0, _, _, _, _, _, _, h => by simp [exec] at h
  | k + 1, [], r, s, s1, r1, h0, h => by
    rw [exec] at h
    cases h
    exact h0
  | k + 1, t :: l, r, s, s1, r1, h0, h => by
    rw [exec] at h
    by_cases hfu : c.fuel ≤ s.st
    · rw [if_pos hfu] at h
      cases h
    rw [if_neg hfu] at h
    obtain ⟨⟨s2, r2⟩, _, hrs⟩ := Option.bind_eq_some_iff.1 h
    dsimp only at hrs
    by_cases hz : s2.fin = 0
    · rw [if_pos hz] at hrs
      exact ins_false k l r2 s2 s1 r1 hz hrs
    · rw [if_neg hz] at hrs
      cases hrs

theorem simS_all {two : Int} {c : Cf} : ∀ k, SimS two c k
  | 0 => ⟨fun _ _ _ _ _ _ _ _ _ h => by simp [exec] at h, fun _ _ _ _ _ _ _ _ _ _ _ h => by simp [exec] at h, fun _ _ _ _ _ _ _ _ h => by simp [exec] at h⟩
  | k + 1 => by
    have ih := simS_all (two := two) (c := c) k
    have h2k : 2 * (k + 1) = 2 * k + 1 + 1 := by omega
    refine ⟨?_, ?_, ?_⟩
    · intro l r s n h0 hn b s' r' h hf
      rw [h2k]
      cases l with
      | nil =>
        rw [exec] at h
        cases h
        exact ⟨n, hn, by rw [exec], fun _ => h0⟩
      | cons t l =>
        rw [exec] at h
        by_cases hfu : c.fuel ≤ s.st
        · rw [if_pos hfu] at h
          cases h
          exact absurd rfl hf
        rw [if_neg hfu] at h
        obtain ⟨⟨s1, r1⟩, hone, hrs⟩ := Option.bind_eq_some_iff.1 h
        dsimp only at hrs
        have hf1 : s1.fin ≠ 5 := by
          by_cases hz : s1.fin = 0
          · omega
          · rw [if_neg hz] at hrs
            cases hrs
            exact hf
        have key : ∃ n1, n1 ≤ 2 * s1.st + 1 ∧ (if t.f0 = 10 then (exec (selfC two c) (2 * k + 1) (.fn t.f5) (tick (at_ s n))).bind fun r_ => some (r_.2.1, r) else oneM (selfC two c).inp t (tick (at_ s n)) r) = some (at_ s1 n1, r1) := by
          by_cases h10 : t.f0 = 10
          · rw [if_pos h10] at hone ⊢
            obtain ⟨⟨b2, s2, r2⟩, hx, hx2⟩ := Option.bind_eq_some_iff.1 hone
            have e := Option.some.inj hx2
            injection e with e1 e2
            dsimp only at e1 e2
            subst e1 e2
            obtain ⟨n2, h1, h2⟩ := ih.fn t.f5 (tick s) (n + 1) h0 (by show n + 1 ≤ 2 * (s.st + 1); omega) b2 s2 r2 hx hf1
            refine ⟨n2, h1, ?_⟩
            have h3 : exec (selfC two c) (2 * k + 1) (.fn t.f5) (tick (at_ s n)) = some (b2, at_ s2 n2, r2) := exec_at _ (Nat.le_succ _) h2
            rw [h3, Option.bind_some]
          · rw [if_neg h10] at hone ⊢
            obtain ⟨g1, g2⟩ := oneM_at (n := n + 1) hone
            have g2' : s1.st = s.st + 1 := g2
            exact ⟨n + 1, by omega, g1⟩
        obtain ⟨n1, hn1, hk1⟩ := key
        rw [exec, if_neg (show ¬ (selfC two c).fuel ≤ (at_ s n).st by show ¬ 2 * c.fuel + 2 ≤ n; omega), hk1, Option.bind_some]
        dsimp only
        by_cases hz : s1.fin = 0
        · rw [if_pos hz] at hrs
          rw [if_pos (show (at_ s1 n1).fin = 0 from hz)]
          obtain ⟨n2, h1, h2, h3⟩ := ih.ins l r1 s1 n1 hz hn1 b s' r' hrs hf
          exact ⟨n2, h1, exec_at _ (Nat.le_succ _) h2, h3⟩
        · rw [if_neg hz] at hrs
          rw [if_neg (show ¬ (at_ s1 n1).fin = 0 from hz)]
          cases hrs
          exact ⟨n1, hn1, rfl, fun h => by cases h⟩
    · intro R bs i r s n h0 hn b s' r' h hf
      rw [h2k]
      rw [exec] at h
      obtain ⟨⟨b1, s1, r1⟩, hin, hrest⟩ := Option.bind_eq_some_iff.1 h
      dsimp only at hrest
      have hf1 : s1.fin ≠ 5 ∨ b1 = false := by
        cases b1 with
        | true =>
          rw [if_pos rfl] at hrest
          cases hrest
          exact .inl hf
        | false => exact .inr rfl
      by_cases hfu : c.fuel ≤ s.st
      · exfalso
        obtain ⟨k, rfl⟩ : ∃ j, k = j + 1 := by
          cases k with
          | zero => simp [exec] at hin
          | succ j => exact ⟨j, rfl⟩
        generalize hl : (rd_T37 bs i).f0 = l at hin
        cases l with
        | nil =>
          rw [exec] at hin
          cases hin
          rw [if_neg (by simp), if_pos hfu] at hrest
          cases hrest
          exact hf rfl
        | cons t l =>
          rw [exec, if_pos hfu] at hin
          cases hin
          rw [if_pos rfl] at hrest
          cases hrest
          exact hf rfl
      -- the copy, if there is one
      have hcopy : ∃ n0, n0 ≤ 2 * s.st + 1 ∧ (∀ (b1 : Bool) (s1 : RS) (n1 : Int) (r1 : List Int), exec (selfC two c) (2 * k) (.ins (rd_T37 bs i).f0 r) (at_ s n0) = some (b1, at_ s1 n1, r1) → exec (selfC two c) (2 * k + 1) (.ins (rd_T37 (bs.map (selfB two R)) i).f0 r) (at_ s n) = some (b1, at_ s1 n1, r1)) ∧
          (rd_T37 (bs.map (selfB two R)) i).f1 = (rd_T37 bs i).f1 ∧ (rd_T37 (bs.map (selfB two R)) i).f2 = (rd_T37 bs i).f2 ∧ (rd_T37 (bs.map (selfB two R)) i).f3 = (rd_T37 bs i).f3 ∧ (rd_T37 (bs.map (selfB two R)) i).f4 = (rd_T37 bs i).f4 := by
        have hsame : ∀ x : S37, x = rd_T37 bs i → ∃ n0, n0 ≤ 2 * s.st + 1 ∧ (∀ (b1 : Bool) (s1 : RS) (n1 : Int) (r1 : List Int), exec (selfC two c) (2 * k) (.ins (rd_T37 bs i).f0 r) (at_ s n0) = some (b1, at_ s1 n1, r1) → exec (selfC two c) (2 * k + 1) (.ins x.f0 r) (at_ s n) = some (b1, at_ s1 n1, r1)) ∧
          x.f1 = (rd_T37 bs i).f1 ∧ x.f2 = (rd_T37 bs i).f2 ∧ x.f3 = (rd_T37 bs i).f3 ∧ x.f4 = (rd_T37 bs i).f4 := fun x hx => by
          subst hx
          exact ⟨n, by omega, fun b1 s1 n1 r1 h => exec_at _ (Nat.le_succ _) h, rfl, rfl, rfl, rfl⟩
        rcases selfB_at (two := two) (R := R) (bs := bs) i with he | he
        · rw [he]
          by_cases hR : 0 < R
          · unfold selfB
            rw [if_pos hR]
            refine ⟨n + 1, by omega, fun b1 s1 n1 r1 h => ?_, rfl, rfl, rfl, rfl⟩
            rw [exec, if_neg (show ¬ (selfC two c).fuel ≤ (at_ s n).st by show ¬ 2 * c.fuel + 2 ≤ n; omega), if_neg (show ¬ (selfI (selfV two R)).f0 = 10 by show ¬ (2 : Int) = 10; omega)]
            rw [show oneM (selfC two c).inp (selfI (selfV two R)) (tick (at_ s n)) r = some (at_ s (n + 1), r) by
              unfold oneM
              rw [if_neg (show ¬ (selfI (selfV two R)).f0 = 1 by show ¬ (2 : Int) = 1; omega), if_pos (show (selfI (selfV two R)).f0 = 2 from rfl)]
              rw [show r.set (selfI (selfV two R)).f1.toNat (rdOf 0 r (selfI (selfV two R)).f2) = r from self_set r _]
              rfl, Option.bind_some]
            dsimp only
            rw [if_pos (show (at_ s (n + 1)).fin = 0 from h0)]
            exact h
          · exact hsame _ (by unfold selfB; rw [if_neg hR])
        · exact hsame _ he
      obtain ⟨n0, hn0, hco, e1, e2, e3, e4⟩ := hcopy
      rw [exec]
      generalize rd_T37 (bs.map (selfB two R)) i = x2 at hco e1 e2 e3 e4 ⊢
      generalize rd_T37 bs i = x1 at *
      have hne : s1.fin ≠ 5 := by
        cases b1 with
        | true => exact hf1.elim id (fun h => by cases h)
        | false => have := ins_false k _ _ _ _ _ h0 hin; omega
      obtain ⟨n1, g1, g2, g3⟩ := ih.ins x1.f0 r s n0 h0 hn0 b1 s1 r1 hin hne
      have g4 := hco _ _ _ _ g2
      cases b1 with
      | true =>
        rw [if_pos rfl] at hrest
        cases hrest
        exact ⟨n1, g1, by rw [g4, Option.bind_some]; exact if_pos rfl⟩
      | false =>
        rw [if_neg (by simp)] at hrest
        by_cases hfu1 : c.fuel ≤ s1.st
        · rw [if_pos hfu1] at hrest
          cases hrest
          exact absurd rfl hf
        rw [if_neg hfu1] at hrest
        rw [g4, Option.bind_some]
        dsimp only
        rw [if_neg (by simp), if_neg (show ¬ (selfC two c).fuel ≤ (at_ s1 n1).st by show ¬ 2 * c.fuel + 2 ≤ n1; omega)]
        by_cases h3 : x1.f1 = 3
        · rw [if_pos h3] at hrest
          rw [if_pos (e1.trans h3)]
          cases hrest
          exact ⟨n1 + 1, by show n1 + 1 ≤ 2 * (s1.st + 1) + 1; omega, rfl⟩
        · rw [if_neg h3] at hrest
          rw [if_neg (by rw [e1]; exact h3)]
          have hnx : nextB x2 r1 = nextB x1 r1 := by unfold nextB; rw [e1, e2, e3, e4]
          rw [hnx]
          obtain ⟨n2, q1, q2⟩ := ih.blk R bs (nextB x1 r1) r1 (tick s1) (n1 + 1) (g3 rfl) (by show n1 + 1 ≤ 2 * (s1.st + 1); omega) b s' r' hrest hf
          exact ⟨n2, q1, exec_at _ (Nat.le_succ _) q2⟩
    · intro i s n h0 hn b s' r' h hf
      rw [h2k]
      rw [exec] at h
      rw [exec]
      show ∃ n', _ ∧ exec (selfC two c) (2 * k + 1) (.blk (fnAt (c.fs.map (selfF two)) i).f1 0 (zeros (fnAt (c.fs.map (selfF two)) i).f0)) (at_ s n) = _
      rw [selfF_map]
      obtain ⟨n2, h1, h2⟩ := ih.blk (fnAt c.fs i).f0 (fnAt c.fs i).f1 0 (zeros (fnAt c.fs i).f0) s n h0 hn b s' r' h hf
      exact ⟨n2, h1, exec_at _ (Nat.le_succ _) h2⟩
end Go.Proofs.Ytcfagmdopkginaa.RunW
