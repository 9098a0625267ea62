/- What a run of a program of blocks does, as a function with a bound on its rounds; no program, no memory. -/
import Derived.Test.YtcfagmdopkginaaFwd
import Derived.Test.YtcfagmdopkginaaPFx34
namespace Go.Proofs.Ytcfagmdopkginaa.RunW
open Go.RowKit Go.Proofs.YtcfagmdopkginaaW.PrintWords Go.Proofs.Ytcfagmdopkginaa.PF Go.Proofs.Ytcfagmdopkginaa.Plain

/-- A run's state. -/
structure RS where
  words : List Int
  out : List Int
  rd : Int
  st : Int
  fin : Int

/-- What is fixed in a run: the functions, the input, the fuel. -/
structure Cf where
  fs : List S24
  inp : List Int
  fuel : Int

def tick (s : RS) : RS := { s with st := s.st + 1 }

open Classical in
/-- What Apply comes to, with rounds enough. -/
noncomputable def ap (op a b : Int) : Option (Int × Int) := if h : ∃ r, Ev (fun k => seedcornref01_Apply.f k op a b) r then some (Classical.choose h) else none
theorem ap_some {op a b : Int} {r : Int × Int} (h : ap op a b = some r) : Ev (fun k => seedcornref01_Apply.f k op a b) r := by
  unfold ap at h
  split at h
  · rename_i hh
    have := Classical.choose_spec hh
    rw [Option.some.inj h] at this
    exact this
  · cases h
theorem ap_ev {op a b : Int} {r : Int × Int} (h : Ev (fun k => seedcornref01_Apply.f k op a b) r) : ap op a b = some r := by
  have h' : ∃ r, Ev (fun k => seedcornref01_Apply.f k op a b) r := ⟨r, h⟩
  have e : ap op a b = some (Classical.choose h') := by unfold ap; rw [dif_pos h']
  rw [e]
  obtain ⟨K, hK⟩ := h
  obtain ⟨K2, hK2⟩ := Classical.choose_spec h'
  exact (hK2 (max K K2) (by omega)).symm.trans (hK _ (by omega))

/-- One instruction that is no call. -/
noncomputable def oneM (inp : List Int) (t : S40) (s : RS) (regs : List Int) : Option (RS × List Int) :=
  if t.f0 = 1 then some (s, regs.set t.f1.toNat t.f7)
  else if t.f0 = 2 then some (s, regs.set t.f1.toNat (rdOf 0 regs t.f2))
  else if t.f0 = 3 then (ap t.f4 (rdOf 0 regs t.f2) (rdOf 0 regs t.f3)).bind fun r => if r.2 = 0 then some (s, regs.set t.f1.toNat r.1) else some ({ s with fin := 2 }, regs)
  else if t.f0 = 4 then some (s, regs.set t.f1.toNat (rdOf 0 s.words t.f5))
  else if t.f0 = 5 then some ({ s with words := s.words.set t.f5.toNat (rdOf 0 regs t.f2) }, regs)
  else if t.f0 = 6 then (if t.f6 ≤ rdOf 0 regs t.f2 then some ({ s with fin := 3 }, regs) else some (s, regs.set t.f1.toNat (rdOf 0 s.words (t.f5 + rdOf 0 regs t.f2))))
  else if t.f0 = 7 then (if t.f6 ≤ rdOf 0 regs t.f2 then some ({ s with fin := 3 }, regs) else some ({ s with words := s.words.set (t.f5 + rdOf 0 regs t.f2).toNat (rdOf 0 regs t.f3) }, regs))
  else if t.f0 = 8 then (if (inp.length : Int) ≤ s.rd then some (s, regs.set t.f1.toNat 256) else some ({ s with rd := s.rd + 1 }, regs.set t.f1.toNat (rdOf 0 inp s.rd)))
  else if t.f0 = 9 then (if 65536 ≤ s.out.length then some ({ s with fin := 4 }, regs) else some ({ s with out := s.out ++ [rdOf 0 regs t.f2 % 256] }, regs))
  else some (s, regs)

/-- What is to be done: the rest of a block's instructions; from a block on; a function. -/
inductive Job where
  | ins (l : List S40) (regs : List Int)
  | blk (bs : List S37) (at_ : Int) (regs : List Int)
  | fn (i : Int)

def fnAt (fs : List S24) (i : Int) : S24 := rd_T24 fs i
def zeros (n : Int) : List Int := List.replicate n.toNat 0
def nextB (k : S37) (regs : List Int) : Int := if k.f1 = 2 ∧ rdOf 0 regs k.f2 = 0 then k.f4 else k.f3

/-- The run: is the function left; the state; the registers. -/
noncomputable def exec (c : Cf) : Nat → Job → RS → Option (Bool × RS × List Int)
  | 0, _, _ => none
  | _ + 1, .ins [] regs, s => some (false, s, regs)
  | k + 1, .ins (t :: l) regs, s =>
    if c.fuel ≤ s.st then some (true, { s with fin := 5 }, regs)
    else (if t.f0 = 10 then (exec c k (.fn t.f5) (tick s)).bind fun r => some (r.2.1, regs) else oneM c.inp t (tick s) regs).bind fun r =>
      if r.1.fin = 0 then exec c k (.ins l r.2) r.1 else some (true, r.1, r.2)
  | k + 1, .blk bs at_ regs, s => (exec c k (.ins (rd_T37 bs at_).f0 regs) s).bind fun r =>
    if r.1 = true then some r
    else if c.fuel ≤ r.2.1.st then some (true, { r.2.1 with fin := 5 }, r.2.2)
    else if (rd_T37 bs at_).f1 = 3 then some (true, tick r.2.1, r.2.2)
    else exec c k (.blk bs (nextB (rd_T37 bs at_) r.2.2) r.2.2) (tick r.2.1)
  | k + 1, .fn i, s => exec c k (.blk (fnAt c.fs i).f1 0 (zeros (fnAt c.fs i).f0)) s

theorem exec_more (c : Cf) : ∀ (k : Nat) (j : Job) (s : RS), LeO (exec c k j s) (exec c (k + 1) j s)
  | 0, _, _ => LeO.none _
  | k + 1, .ins [] _, _ => LeO.refl _
  | k + 1, .ins (t :: l) regs, s => by
    rw [exec, exec]
    refine LeO.ite (LeO.refl _) (LeO.bind (LeO.ite (LeO.bind (exec_more c k _ _) fun _ => LeO.refl _) (LeO.refl _)) fun r => LeO.ite (exec_more c k _ _) (LeO.refl _))
  | k + 1, .blk bs at_ regs, s => by
    rw [exec, exec]
    refine LeO.bind (exec_more c k _ _) fun r => LeO.ite (LeO.refl _) (LeO.ite (LeO.refl _) (LeO.ite (LeO.refl _) (exec_more c k _ _)))
  | k + 1, .fn i, s => by
    rw [exec, exec]
    exact exec_more c k _ _

/-! ### Every run comes to an end -/
def u32L (l : List Int) : Prop := ∀ x ∈ l, 0 ≤ x ∧ x ≤ 4294967295
/-- What a state holds to, with so many words. -/
structure okS (words : Int) (s : RS) : Prop where
  w : (s.words.length : Int) = words
  wr : u32L s.words
  o : s.out.length ≤ 65536
  or : ∀ x ∈ s.out, 0 ≤ x ∧ x ≤ 255
  r0 : 0 ≤ s.rd
  s0 : 0 ≤ s.st
def okR (regs : Int) (l : List Int) : Prop := (l.length : Int) = regs ∧ u32L l
/-- What an instruction holds to, in the function of a number. -/
structure okI (regs number words : Int) (t : S40) : Prop where
  op : 1 ≤ t.f0 ∧ t.f0 ≤ 10
  u : okT regs t
  n : 0 ≤ t.f7 ∧ t.f7 ≤ 4294967295
  k : t.f0 = 3 → 4 ≤ t.f4 ∧ t.f4 ≤ 15
  wd : t.f0 = 4 ∨ t.f0 = 5 → 0 ≤ t.f5 ∧ t.f5 < words
  ar : t.f0 = 6 ∨ t.f0 = 7 → 1 ≤ t.f6 ∧ t.f6 ≤ 4096 ∧ 0 ≤ t.f5 ∧ t.f5 + t.f6 ≤ words
  ca : t.f0 = 10 → 0 ≤ t.f5 ∧ t.f5 < number
structure okK (regs number words blocks : Int) (b : S37) : Prop where
  i : ∀ t ∈ b.f0, okI regs number words t
  n : b.f0.length ≤ 1000000
  e : 1 ≤ b.f1 ∧ b.f1 ≤ 3
  v : b.f1 = 2 → inR regs b.f2
  ta : b.f1 = 1 ∨ b.f1 = 2 → inR blocks b.f3
  el : b.f1 = 2 → inR blocks b.f4
structure okFn (number words : Int) (f : S24) : Prop where
  r0 : 0 ≤ f.f0
  r1 : f.f0 ≤ 4000
  n0 : 0 < f.f1.length
  n : f.f1.length ≤ 1000000
  b : ∀ b ∈ f.f1, okK f.f0 number words f.f1.length b
/-- A program that may be. -/
structure okP (words : Int) (c : Cf) : Prop where
  w0 : 0 ≤ words
  w1 : words ≤ 1048576
  f : ∀ i : Nat, i < c.fs.length → okFn i words (fnAt c.fs i)
  inp : ∀ x ∈ c.inp, 0 ≤ x ∧ x ≤ 255

theorem u32L_set {l : List Int} (h : u32L l) {i : Nat} {x : Int} (hx : 0 ≤ x ∧ x ≤ 4294967295) : u32L (l.set i x) := fun y hy => by
  rcases List.mem_or_eq_of_mem_set hy with h1 | rfl
  · exact h y h1
  · exact hx
theorem u32L_rd {l : List Int} (h : u32L l) (i : Int) : 0 ≤ rdOf 0 l i ∧ rdOf 0 l i ≤ 4294967295 := by
  unfold rdOf
  rw [List.getD_eq_getElem?_getD]
  by_cases hi : i.toNat < l.length
  · rw [List.getElem?_eq_getElem hi]; exact h _ (List.getElem_mem hi)
  · rw [List.getElem?_eq_none (by omega)]; simp
theorem okR_set {r : Int} {l : List Int} (h : okR r l) {i : Nat} {x : Int} (hx : 0 ≤ x ∧ x ≤ 4294967295) : okR r (l.set i x) := ⟨by rw [List.length_set]; exact h.1, u32L_set h.2 hx⟩
theorem okS_tick {words : Int} {s : RS} (h : okS words s) : okS words (tick s) := ⟨h.w, h.wr, h.o, h.or, h.r0, by have := h.s0; show 0 ≤ s.st + 1; omega⟩
theorem okR_zeros {n : Int} (h : 0 ≤ n) : okR n (zeros n) := ⟨by unfold zeros; simp; omega, fun x hx => by unfold zeros at hx; have := List.eq_of_mem_replicate hx; omega⟩

/-- What Apply comes to. -/
def ApplyOk : Prop := ∀ op a b : Int, 4 ≤ op → op ≤ 15 → 0 ≤ a → a ≤ 4294967295 → 0 ≤ b → b ≤ 4294967295 → ∃ r, ap op a b = some r ∧ 0 ≤ r.1 ∧ r.1 ≤ 4294967295

/-- What a piece of a run leaves. -/
structure Left (words regs : Int) (s : RS) (b : Bool) (s' : RS) (r' : List Int) : Prop where
  s2 : okS words s'
  r2 : okR regs r'
  t2 : s.st ≤ s'.st
  g2 : b = false → s'.fin = 0

theorem oneM_total (hap : ApplyOk) {regs number words : Int} {t : S40} (ht : okI regs number words t) (hne : t.f0 ≠ 10) {inp : List Int} (hin : ∀ x ∈ inp, 0 ≤ x ∧ x ≤ 255) {s : RS} (hs : okS words s) {l : List Int} (hl : okR regs l) :
    ∃ s' l', oneM inp t s l = some (s', l') ∧ okS words s' ∧ okR regs l' ∧ s'.st = s.st := by
  have hrd := u32L_rd hl.2
  unfold oneM
  by_cases h1 : t.f0 = 1
  · exact ⟨s, _, by rw [if_pos h1], hs, okR_set hl ht.n, rfl⟩
  rw [if_neg h1]
  by_cases h2 : t.f0 = 2
  · exact ⟨s, _, by rw [if_pos h2], hs, okR_set hl (hrd _), rfl⟩
  rw [if_neg h2]
  by_cases h3 : t.f0 = 3
  · obtain ⟨r, hk, h0, h1⟩ := hap t.f4 (rdOf 0 l t.f2) (rdOf 0 l t.f3) (ht.k h3).1 (ht.k h3).2 (hrd _).1 (hrd _).2 (hrd _).1 (hrd _).2
    by_cases he : r.2 = 0
    · exact ⟨s, _, by rw [if_pos h3, hk, Option.bind_some, if_pos he], hs, okR_set hl ⟨h0, h1⟩, rfl⟩
    · exact ⟨{ s with fin := 2 }, l, by rw [if_pos h3, hk, Option.bind_some, if_neg he], ⟨hs.w, hs.wr, hs.o, hs.or, hs.r0, hs.s0⟩, hl, rfl⟩
  rw [if_neg h3]
  by_cases h4 : t.f0 = 4
  · exact ⟨s, _, by rw [if_pos h4], hs, okR_set hl (u32L_rd hs.wr _), rfl⟩
  rw [if_neg h4]
  by_cases h5 : t.f0 = 5
  · exact ⟨{ s with words := s.words.set t.f5.toNat (rdOf 0 l t.f2) }, l, by rw [if_pos h5], ⟨by simpa using hs.w, u32L_set hs.wr (hrd _), hs.o, hs.or, hs.r0, hs.s0⟩, hl, rfl⟩
  rw [if_neg h5]
  by_cases h6 : t.f0 = 6
  · rw [if_pos h6]
    by_cases hb : t.f6 ≤ rdOf 0 l t.f2
    · exact ⟨{ s with fin := 3 }, l, by rw [if_pos hb], ⟨hs.w, hs.wr, hs.o, hs.or, hs.r0, hs.s0⟩, hl, rfl⟩
    · exact ⟨s, _, by rw [if_neg hb], hs, okR_set hl (u32L_rd hs.wr _), rfl⟩
  rw [if_neg h6]
  by_cases h7 : t.f0 = 7
  · rw [if_pos h7]
    by_cases hb : t.f6 ≤ rdOf 0 l t.f2
    · exact ⟨{ s with fin := 3 }, l, by rw [if_pos hb], ⟨hs.w, hs.wr, hs.o, hs.or, hs.r0, hs.s0⟩, hl, rfl⟩
    · exact ⟨{ s with words := s.words.set (t.f5 + rdOf 0 l t.f2).toNat (rdOf 0 l t.f3) }, l, by rw [if_neg hb], ⟨by simpa using hs.w, u32L_set hs.wr (hrd _), hs.o, hs.or, hs.r0, hs.s0⟩, hl, rfl⟩
  rw [if_neg h7]
  by_cases h8 : t.f0 = 8
  · rw [if_pos h8]
    by_cases hb : (inp.length : Int) ≤ s.rd
    · exact ⟨s, _, by rw [if_pos hb], hs, okR_set hl (by omega), rfl⟩
    · refine ⟨{ s with rd := s.rd + 1 }, _, by rw [if_neg hb], ⟨hs.w, hs.wr, hs.o, hs.or, by have := hs.r0; show 0 ≤ s.rd + 1; omega, hs.s0⟩, okR_set hl ?_, rfl⟩
      have : ∀ i : Int, 0 ≤ rdOf 0 inp i ∧ rdOf 0 inp i ≤ 255 := fun i => by
        unfold rdOf
        rw [List.getD_eq_getElem?_getD]
        by_cases hi : i.toNat < inp.length
        · rw [List.getElem?_eq_getElem hi]; exact hin _ (List.getElem_mem hi)
        · rw [List.getElem?_eq_none (by omega)]; simp
      have := this s.rd
      omega
  rw [if_neg h8]
  by_cases h9 : t.f0 = 9
  · rw [if_pos h9]
    by_cases hb : 65536 ≤ s.out.length
    · exact ⟨{ s with fin := 4 }, l, by rw [if_pos hb], ⟨hs.w, hs.wr, hs.o, hs.or, hs.r0, hs.s0⟩, hl, rfl⟩
    · refine ⟨{ s with out := s.out ++ [rdOf 0 l t.f2 % 256] }, l, by rw [if_neg hb], ⟨hs.w, hs.wr, by simp; omega, fun x hx => ?_, hs.r0, hs.s0⟩, hl, rfl⟩
      rcases List.mem_append.1 hx with hx | hx
      · exact hs.or x hx
      · have : x = rdOf 0 l t.f2 % 256 := by simpa using hx
        omega
  have := ht.op
  omega

theorem exec_at (c : Cf) {j : Job} {s : RS} {k k' : Nat} (hk : k ≤ k') {r : Bool × RS × List Int} (h : exec c k j s = some r) : exec c k' j s = some r :=
  at_rounds (g := fun k => exec c k j s) (fun k => exec_more c k j s) hk h

section
variable {words : Int} {c : Cf} (hap : ApplyOk) (hp : okP words c)

/-- All runs from a state with so much fuel left. -/
structure Tot (words : Int) (c : Cf) (n : Nat) : Prop where
  ins : ∀ (regs number : Int) (l : List S40), (∀ t ∈ l, okI regs number words t) → number ≤ c.fs.length → ∀ (s : RS) (r : List Int), okS words s → s.fin = 0 → okR regs r → (c.fuel - s.st).toNat ≤ n →
    ∃ k b s' r', exec c k (.ins l r) s = some (b, s', r') ∧ Left words regs s b s' r'
  blk : ∀ (regs number : Int) (bs : List S37), (∀ b ∈ bs, okK regs number words bs.length b) → number ≤ c.fs.length → ∀ (at_ : Int), inR bs.length at_ → ∀ (s : RS) (r : List Int), okS words s → s.fin = 0 → okR regs r → (c.fuel - s.st).toNat ≤ n →
    ∃ k s' r', exec c k (.blk bs at_ r) s = some (true, s', r') ∧ Left words regs s true s' r'
  fn : ∀ i : Int, 0 ≤ i → i < c.fs.length → ∀ s : RS, okS words s → s.fin = 0 → (c.fuel - s.st).toNat ≤ n → ∃ k s' r', exec c k (.fn i) s = some (true, s', r') ∧ okS words s' ∧ s.st ≤ s'.st

include hap hp in
theorem tot_ins {n : Nat} (ih : ∀ m, m < n → Tot words c m) : ∀ (regs number : Int) (l : List S40), (∀ t ∈ l, okI regs number words t) → number ≤ c.fs.length → ∀ (s : RS) (r : List Int), okS words s → s.fin = 0 → okR regs r → (c.fuel - s.st).toNat ≤ n →
    ∃ k b s' r', exec c k (.ins l r) s = some (b, s', r') ∧ Left words regs s b s' r' := by
  intro regs number l hl hnum s r hs hf hr hn
  cases l with
  | nil => exact ⟨1, false, s, r, rfl, hs, hr, Int.le_refl _, fun _ => hf⟩
  | cons t l =>
    by_cases hfu : c.fuel ≤ s.st
    · exact ⟨1, true, { s with fin := 5 }, r, by rw [exec, if_pos hfu], ⟨hs.w, hs.wr, hs.o, hs.or, hs.r0, hs.s0⟩, hr, Int.le_refl _, fun h => by cases h⟩
    have hm : (c.fuel - (s.st + 1)).toNat < n := by omega
    have ht := hl t (by simp)
    -- what comes behind the instruction
    have next : ∀ (s1 : RS) (r1 : List Int), okS words s1 → okR regs r1 → (tick s).st ≤ s1.st → (∃ k, (∀ k', k ≤ k' → (if t.f0 = 10 then (exec c k' (.fn t.f5) (tick s)).bind fun r_ => some (r_.2.1, r) else oneM c.inp t (tick s) r) = some (s1, r1))) →
        ∃ k b s' r', exec c k (.ins (t :: l) r) s = some (b, s', r') ∧ Left words regs s b s' r' := by
      rintro s1 r1 hs1 hr1 hst ⟨k, hk⟩
      have hst' : s.st + 1 ≤ s1.st := hst
      by_cases hf1 : s1.fin = 0
      · obtain ⟨k2, b, s', r', h2, L⟩ := (ih _ hm).ins regs number l (fun u hu => hl u (by simp [hu])) hnum s1 r1 hs1 hf1 hr1 (by omega)
        refine ⟨max k k2 + 1, b, s', r', ?_, L.s2, L.r2, by have := L.t2; omega, L.g2⟩
        rw [exec, if_neg hfu, hk _ (by omega), Option.bind_some, if_pos hf1]
        exact exec_at c (by omega) h2
      · refine ⟨k + 1, true, s1, r1, ?_, hs1, hr1, by omega, fun h => by cases h⟩
        rw [exec, if_neg hfu, hk _ (by omega), Option.bind_some, if_neg hf1]
    by_cases h10 : t.f0 = 10
    · have hca := ht.ca h10
      obtain ⟨k, s', r', h, hs', hst⟩ := (ih _ hm).fn t.f5 hca.1 (by omega) (tick s) (okS_tick hs) hf (Nat.le_refl _)
      refine next s' r hs' hr hst ⟨k, fun k' hk' => ?_⟩
      rw [if_pos h10, exec_at c hk' h]
      rfl
    · obtain ⟨s', r', h, hs', hr', hst⟩ := oneM_total hap ht h10 hp.inp (okS_tick hs) hr
      refine next s' r' hs' hr' (Int.le_of_eq hst.symm) ⟨0, fun k' hk' => ?_⟩
      rw [if_neg h10]
      exact h

theorem rd37_mem0 {l : List S37} {i : Nat} (h : i < l.length) : rd_T37 l i ∈ l := by
  unfold rd_T37
  rw [Int.toNat_natCast, List.getD_eq_getElem?_getD, List.getElem?_eq_getElem h]
  exact List.getElem_mem h
theorem rd37_in {bs : List S37} {i : Int} (h : inR bs.length i) : rd_T37 bs i ∈ bs := by
  obtain ⟨h0, h1⟩ := h
  have := rd37_mem0 (l := bs) (i := i.toNat) (by omega)
  rwa [Int.toNat_of_nonneg h0] at this

include hap hp in
theorem tot_all : ∀ n : Nat, Tot words c n := by
  intro n
  induction n using Nat.strongRecOn with
  | _ n ih =>
    have hins := tot_ins hap hp ih
    have hblk : ∀ (regs number : Int) (bs : List S37), (∀ b ∈ bs, okK regs number words bs.length b) → number ≤ c.fs.length → ∀ (at_ : Int), inR bs.length at_ → ∀ (s : RS) (r : List Int), okS words s → s.fin = 0 → okR regs r → (c.fuel - s.st).toNat ≤ n →
        ∃ k s' r', exec c k (.blk bs at_ r) s = some (true, s', r') ∧ Left words regs s true s' r' := by
      intro regs number bs hbs hnum at_ hat s r hs hf hr hn
      have hb := hbs _ (rd37_in hat)
      obtain ⟨k, b, s1, r1, h, L⟩ := hins regs number (rd_T37 bs at_).f0 hb.i hnum s r hs hf hr hn
      cases b with
      | true => exact ⟨k + 1, s1, r1, by rw [exec, h]; rfl, L⟩
      | false =>
        by_cases hfu : c.fuel ≤ s1.st
        · refine ⟨k + 1, { s1 with fin := 5 }, r1, ?_, ⟨L.s2.w, L.s2.wr, L.s2.o, L.s2.or, L.s2.r0, L.s2.s0⟩, L.r2, L.t2, fun h => by cases h⟩
          rw [exec, h, Option.bind_some, if_neg (by simp), if_pos hfu]
        · by_cases h3 : (rd_T37 bs at_).f1 = 3
          · refine ⟨k + 1, tick s1, r1, ?_, okS_tick L.s2, L.r2, by have := L.t2; show s.st ≤ s1.st + 1; omega, fun h => by cases h⟩
            rw [exec, h, Option.bind_some, if_neg (by simp), if_neg hfu, if_pos h3]
          · have hm : (c.fuel - (tick s1).st).toNat < n := by have := L.t2; show (c.fuel - (s1.st + 1)).toNat < n; omega
            have he := hb.e
            have hnx : inR bs.length (nextB (rd_T37 bs at_) r1) := by
              unfold nextB
              split
              · rename_i hh; exact hb.el hh.1
              · exact hb.ta (by omega)
            obtain ⟨k2, s', r', h2, L2⟩ := (ih _ hm).blk regs number bs hbs hnum _ hnx (tick s1) r1 (okS_tick L.s2) (L.g2 rfl) L.r2 (Nat.le_refl _)
            refine ⟨max k k2 + 1, s', r', ?_, L2.s2, L2.r2, by have := L.t2; have h5 := L2.t2; have : (tick s1).st = s1.st + 1 := rfl; omega, fun h => by cases h⟩
            rw [exec, exec_at c (by omega) h, Option.bind_some, if_neg (by simp), if_neg hfu, if_neg h3]
            exact exec_at c (by omega) h2
    refine ⟨hins, hblk, fun i h0 h1 s hs hf hn => ?_⟩
    have hF := hp.f i.toNat (by omega)
    rw [Int.toNat_of_nonneg h0] at hF
    have hn0 := hF.n0
    obtain ⟨k, s', r', h, L⟩ := hblk (fnAt c.fs i).f0 i (fnAt c.fs i).f1 hF.b (by omega) 0 ⟨by omega, by show (0 : Int) < ((fnAt c.fs i).f1.length : Int); omega⟩ s (zeros (fnAt c.fs i).f0) hs hf (okR_zeros hF.r0) hn
    exact ⟨k + 1, s', r', by rw [exec]; exact h, L.s2, L.t2⟩
end
end Go.Proofs.Ytcfagmdopkginaa.RunW
