/- The plain law ForwardChains of layer 31, over lists alone. -/
import Derived.Test.YtcfagmdopkginaaRunSim
import Derived.Test.YtcfagmdopkginaaPGc
namespace Go.Proofs.Ytcfagmdopkginaa.RunW
open Go.RowKit Go.Proofs.YtcfagmdopkginaaW.PrintWords Go.Proofs.Ytcfagmdopkginaa.PF Go.Proofs.Ytcfagmdopkginaa.Plain Go.Proofs.Ytcfagmdopkginaa.Args

/-- Instructions that copy, read or put out, and come to no bad end. -/
theorem exec_plain (c : Cf) : ∀ (l : List S40) (s : RS) (regs : List Int), (∀ t ∈ l, t.f0 = 2 ∨ t.f0 = 8 ∨ t.f0 = 9) → s.fin = 0 → s.st + l.length < c.fuel → s.out.length + l.length ≤ 65536 →
    ∃ s' r', (∀ k, l.length < k → exec c k (.ins l regs) s = some (false, s', r')) ∧ s'.fin = 0 ∧ s'.st = s.st + l.length
  | [], s, regs, _, hf, _, _ => ⟨s, regs, fun k hk => by obtain ⟨k, rfl⟩ : ∃ m, k = m + 1 := ⟨k - 1, by simp at hk; omega⟩; rw [exec], hf, by simp⟩
  | t :: l, s, regs, hl, hf, hst, ho => by
    rw [List.length_cons] at hst ho
    have hone : ∃ s1 r1, oneM c.inp t (tick s) regs = some (s1, r1) ∧ s1.fin = 0 ∧ s1.st = s.st + 1 ∧ s1.out.length ≤ s.out.length + 1 := by
      unfold oneM
      rcases hl t (by simp) with h | h | h
      · exact ⟨tick s, _, by rw [if_neg (by omega), if_pos h], hf, rfl, by show s.out.length ≤ _; omega⟩
      · by_cases hi : (c.inp.length : Int) ≤ (tick s).rd
        · exact ⟨tick s, _, by rw [if_neg (by omega), if_neg (by omega), if_neg (by omega), if_neg (by omega), if_neg (by omega), if_neg (by omega), if_neg (by omega), if_pos h, if_pos hi], hf, rfl, by show s.out.length ≤ _; omega⟩
        · exact ⟨{ tick s with rd := (tick s).rd + 1 }, _, by rw [if_neg (by omega), if_neg (by omega), if_neg (by omega), if_neg (by omega), if_neg (by omega), if_neg (by omega), if_neg (by omega), if_pos h, if_neg hi], hf, rfl, by show s.out.length ≤ _; omega⟩
      · exact ⟨{ tick s with out := (tick s).out ++ [rdOf 0 regs t.f2 % 256] }, regs, by rw [if_neg (by omega), if_neg (by omega), if_neg (by omega), if_neg (by omega), if_neg (by omega), if_neg (by omega), if_neg (by omega), if_neg (by omega), if_pos h, if_neg (by show ¬ 65536 ≤ s.out.length; omega)], hf, rfl, by show (s.out ++ [_]).length ≤ _; simp⟩
    obtain ⟨s1, r1, h1, h2, h3, h4⟩ := hone
    obtain ⟨s', r', h5, h6, h7⟩ := exec_plain c l s1 r1 (fun u hu => hl u (by simp [hu])) h2 (by rw [h3]; omega) (by omega)
    refine ⟨s', r', fun k hk => ?_, h6, by rw [h7, h3, List.length_cons]; omega⟩
    obtain ⟨k, rfl⟩ : ∃ m, k = m + 1 := ⟨k - 1, by simp at hk; omega⟩
    rw [exec, if_neg (by omega), if_neg (by have := hl t (by simp); omega), h1, Option.bind_some]
    dsimp only
    rw [if_pos h2]
    exact h5 k (by simp at hk; omega)

/-- One block that returns. -/
theorem exec_block (c : Cf) (R : Int) (b : S37) (hfs : c.fs = [⟨R, [b]⟩]) (h3 : b.f1 = 3) (hl : ∀ t ∈ b.f0, t.f0 = 2 ∨ t.f0 = 8 ∨ t.f0 = 9) (hfu : (b.f0.length : Int) + 1 < c.fuel) (hn : b.f0.length ≤ 65536) :
    ∃ s' r', Ev (fun k => exec c k (.fn 0) (initS 0)) (true, s', r') ∧ s'.fin = 0 := by
  obtain ⟨s', r', h1, h2, h4⟩ := exec_plain c b.f0 (initS 0) (zeros R) hl rfl (by show (0 : Int) + _ < _; omega) (by show 0 + _ ≤ _; omega)
  have h4' : s'.st = 0 + (b.f0.length : Int) := h4
  refine ⟨tick s', r', ⟨b.f0.length + 10, fun k hk => ?_⟩, h2⟩
  obtain ⟨k, rfl⟩ : ∃ m, k = m + 2 := ⟨k - 2, by omega⟩
  show exec c (k + 2) (.fn 0) (initS 0) = _
  rw [exec, exec]
  have hf : fnAt c.fs 0 = ⟨R, [b]⟩ := by rw [hfs]; rfl
  rw [hf]
  have hb : rd_T37 [b] 0 = b := rfl
  rw [hb, h1 k (by omega), Option.bind_some]
  dsimp only
  rw [if_neg (by simp), if_neg (by omega), if_pos h3]

/-- The chain: a byte is read, and copied from one register to the next one, from a number on. -/
def links : Nat → Nat → List S40
  | 0, _ => []
  | n + 1, i => ⟨2, (i : Int), (i : Int) - 1, 0, 0, 0, 0, 0⟩ :: links n (i + 1)
def linked : Nat → Nat → List S40
  | 0, _ => []
  | n + 1, i => ⟨2, (i : Int), 0, 0, 0, 0, 0, 0⟩ :: linked n (i + 1)
def getI : S40 := ⟨8, 0, 0, 0, 0, 0, 0, 0⟩
def putI (m : Int) : S40 := ⟨9, 0, m, 0, 0, 0, 0, 0⟩
theorem links_length : ∀ n i, (links n i).length = n
  | 0, _ => rfl
  | n + 1, i => by rw [links, List.length_cons, links_length]
theorem linked_length : ∀ n i, (linked n i).length = n
  | 0, _ => rfl
  | n + 1, i => by rw [linked, List.length_cons, linked_length]
theorem links_snoc : ∀ (n i : Nat), links (n + 1) i = links n i ++ [⟨2, ((i + n : Nat) : Int), ((i + n : Nat) : Int) - 1, 0, 0, 0, 0, 0⟩]
  | 0, i => rfl
  | n + 1, i => by
    rw [links, links_snoc n (i + 1), links]
    simp only [List.cons_append, show i + 1 + n = i + (n + 1) by omega]
theorem links_ok {R : Int} : ∀ (n i : Nat), 1 ≤ i → ((i + n : Nat) : Int) ≤ R → ∀ t ∈ links n i, okT R t ∧ t.f0 = 2
  | 0, _, _, _ => fun t ht => (by cases ht)
  | n + 1, i, hi, hR => fun t ht => by
    rw [links] at ht
    rcases List.mem_cons.1 ht with rfl | ht
    · exact ⟨⟨fun _ => ⟨by show (0 : Int) ≤ (i : Int) - 1; omega, by show (i : Int) - 1 < R; omega⟩, fun h => (by cases h), fun _ => ⟨by show (0 : Int) ≤ i; omega, by show (i : Int) < R; omega⟩⟩, rfl⟩
    · exact links_ok n (i + 1) (by omega) (by omega) t ht
theorem linked_op : ∀ (n i : Nat), ∀ t ∈ linked n i, t.f0 = 2
  | 0, _ => fun t ht => (by cases ht)
  | n + 1, i => fun t ht => by
    rw [linked] at ht
    rcases List.mem_cons.1 ht with rfl | ht
    · rfl
    · exact linked_op n (i + 1) t ht
theorem linked_f2 : ∀ (n i : Nat) (j : Nat), j < n → ∃ t, (linked n i)[j]? = some t ∧ t.f2 = 0
  | 0, _, j, h => by omega
  | n + 1, i, 0, _ => ⟨_, rfl, rfl⟩
  | n + 1, i, j + 1, h => by
    obtain ⟨t, h1, h2⟩ := linked_f2 n (i + 1) j (by omega)
    exact ⟨t, by rw [linked, List.getElem?_cons_succ]; exact h1, h2⟩

theorem run_append : ∀ (l1 l2 : List S40) (c : List Int), run c (l1 ++ l2) = ((run c l1).1 ++ (run (run c l1).2 l2).1, (run (run c l1).2 l2).2)
  | [], l2, c => by simp [run]
  | t :: l1, l2, c => by
    simp only [List.cons_append, run]
    rw [run_append l1 l2]
/-- Behind the first one all of the chain are copies of register 0. -/
theorem run_links {R : Int} : ∀ (n i : Nat) (c : List Int), 1 ≤ i → ((i + n : Nat) : Int) ≤ R → okC R c → rd c 0 = -1 → ofM c ((i : Int) - 1) = 0 →
    (run c (links n i)).1 = linked n i ∧ ofM (run c (links n i)).2 (((i + n : Nat) : Int) - 1) = 0
  | 0, i, c, _, _, _, _, h => ⟨rfl, h⟩
  | n + 1, i, c, hi, hR, hc, h0, h => by
    have hi0 : inR R (i : Int) := ⟨by omega, by omega⟩
    have h00 : inR R 0 := ⟨by omega, by omega⟩
    have hc' : okC R (setM c i 0) := okC_set hc hi0 (.inr ⟨h00, h0⟩)
    have hr0 : rd (setM c i 0) 0 = -1 := by
      rw [rd_setM (hc.inL hi0) (hc.inL h00), if_neg (by omega), h0, if_neg (by omega)]
    have hri : ofM (setM c i 0) (i : Int) = 0 := by
      have : rd (setM c i 0) (i : Int) = 0 := by rw [rd_setM (hc.inL hi0) (hc.inL hi0), if_pos rfl, if_neg (by omega)]
      unfold ofM
      rw [this, if_neg (by omega)]
    have e1 : insT c ⟨2, (i : Int), (i : Int) - 1, 0, 0, 0, 0, 0⟩ = ⟨2, (i : Int), 0, 0, 0, 0, 0, 0⟩ := by
      show (⟨2, (i : Int), ofM c ((i : Int) - 1), 0, 0, 0, 0, 0⟩ : S40) = _
      rw [h]
    have e2 : insC c ⟨2, (i : Int), (i : Int) - 1, 0, 0, 0, 0, 0⟩ = setM c i 0 := by
      show setM c i (ofM c ((i : Int) - 1)) = _
      rw [h]
    obtain ⟨g1, g2⟩ := run_links n (i + 1) (setM c i 0) (by omega) (by omega) hc' hr0 (by rw [show ((i + 1 : Nat) : Int) - 1 = i by omega]; exact hri)
    rw [links]
    simp only [run, e1, e2]
    rw [g1, linked]
    refine ⟨rfl, ?_⟩
    rw [show i + (n + 1) = i + 1 + n by omega]
    exact g2

def chainB (m : Nat) : S37 := ⟨(getI :: links m 1) ++ [putI m], 3, 0, 0, 0⟩
theorem chain_ok (m : Nat) (hm : 1 ≤ m) : okB ((m : Int) + 1) (chainB m) := by
  refine ⟨fun t ht => ?_, fun h => (by cases h)⟩
  have ht' : t ∈ (getI :: links m 1) ++ [putI m] := ht
  rcases List.mem_append.1 ht' with h | h
  · rcases List.mem_cons.1 h with rfl | h
    · exact ⟨fun h => (by cases h), fun h => (by cases h), fun _ => ⟨Int.le_refl _, by show (0 : Int) < (m : Int) + 1; omega⟩⟩
    · exact (links_ok m 1 (Nat.le_refl _) (by omega) t h).1
  · have e : t = putI m := by simpa using h
    subst e
    exact ⟨fun _ => ⟨by show (0 : Int) ≤ m; omega, by show (m : Int) < m + 1; omega⟩, fun h => (by cases h), fun h => (by cases h)⟩
theorem chain_fwd (m : Nat) (hm : 1 ≤ m) : blockM ((m : Int) + 1) (chainB m) = ⟨(getI :: linked m 1) ++ [putI 0], 3, 0, 0, 0⟩ := by
  have hR : inR ((m : Int) + 1) 0 := ⟨by omega, by omega⟩
  have hn := okC_none (regs := (m : Int) + 1)
  have hc0 : okC ((m : Int) + 1) (setM (none_ ((m : Int) + 1)) 0 (-1)) := okC_set hn hR (.inl rfl)
  have h0 : rd (setM (none_ ((m : Int) + 1)) 0 (-1)) 0 = -1 := by rw [rd_setM (hn.inL hR) (hn.inL hR), if_pos rfl]; simp
  obtain ⟨g1, g2⟩ := run_links (R := (m : Int) + 1) m 1 (setM (none_ ((m : Int) + 1)) 0 (-1)) (Nat.le_refl _) (by omega) hc0 h0 (by unfold ofM; rw [show ((1 : Nat) : Int) - 1 = 0 by omega, h0, if_pos rfl])
  rw [show ((1 + m : Nat) : Int) - 1 = (m : Int) by omega] at g2
  have e : (run (none_ ((m : Int) + 1)) ((getI :: links m 1) ++ [putI m])).1 = (getI :: linked m 1) ++ [putI 0] := by
    have e1 : insT (none_ ((m : Int) + 1)) getI = getI := rfl
    have e2 : insC (none_ ((m : Int) + 1)) getI = setM (none_ ((m : Int) + 1)) 0 (-1) := rfl
    rw [run_append]
    simp only [run, e1, e2, g1]
    have e3 : insT (run (setM (none_ ((m : Int) + 1)) 0 (-1)) (links m 1)).2 (putI m) = putI 0 := by
      show (⟨9, 0, ofM _ (m : Int), 0, 0, 0, 0, 0⟩ : S40) = _
      rw [g2]
      rfl
    rw [e3]
  unfold blockM
  show (⟨(run (none_ ((m : Int) + 1)) ((getI :: links m 1) ++ [putI m])).1, 3, if (3 : Int) = 2 then _ else 0, 0, 0⟩ : S37) = _
  rw [e, if_neg (by omega)]

theorem chains_l0 {m : Nat} {inp : ByteArray} (hm : m ≤ 12) {r : Bool} (h : Ev (fun k => (forward_Of.f k (wrap64 ((m : Int) + 1)) [chainB m]).bind fun bt478 => (if (bt478.2.1.length : Int) = 1 then (if 0 < (bt478.2.1.length : Int) then (seedcornlaw31_ForwardChains.j1 k inp m ((((rd_T37 bt478.2.1 0).f0).length : Int) != (wrap64 ((m : Int) + 2))) bt478.1 bt478.2.1) else (none)) else (seedcornlaw31_ForwardChains.j1 k inp m true bt478.1 bt478.2.1))) r) :
    ∀ (n i : Nat), i + n = m → Ev (fun k => seedcornlaw31_ForwardChains.l0 k inp m ((i + 1 : Nat) : Int) (getI :: links i 1) 3 0 0 0) r
  | 0, i, hi => by
    obtain rfl : i = m := by omega
    refine Ev.step (fun k => by rw [seedcornlaw31_ForwardChains.l0, if_neg (by omega), if_pos (by rw [List.length_cons, links_length]; omega)]) ?_
    exact h
  | n + 1, i, hi => by
    refine Ev.step (fun k => by rw [seedcornlaw31_ForwardChains.l0, if_pos (by omega), if_pos (by rw [List.length_cons, links_length]; omega), wrap_nat (n := 20) (by omega) (by omega), wrap_id (by omega) (by omega)]) ?_
    have := chains_l0 hm h n (i + 1) (by omega)
    rw [links_snoc, show 1 + i = i + 1 by omega] at this
    exact this

theorem pureChains {n : Int} {inp : ByteArray} (h0 : 0 ≤ n) (_h1 : n ≤ 255) : ∃ k, seedcornlaw31_ForwardChains.f k n inp = some true := by
  refine Ev.rounds (g := fun k => seedcornlaw31_ForwardChains.f k n inp) ?_
  unfold seedcornlaw31_ForwardChains.f
  refine Ev.ite (fun _ => Ev.bind awake_ev (Ev.now _)) (fun hi => ?_)
  obtain ⟨m, hm, hm1, hm2⟩ : ∃ m : Nat, wrap64 (1 + wrap64 (Int.tmod n 12)) = (m : Int) ∧ 1 ≤ m ∧ m ≤ 12 := by
    have e : Int.tmod n 12 = n % 12 := Int.tmod_eq_emod_of_nonneg h0
    refine ⟨(1 + n % 12).toNat, ?_, by omega, by omega⟩
    rw [e, wrap_id (x := n % 12) (by omega) (by omega), wrap_id (by omega) (by omega)]
    omega
  rw [hm]
  have hok : okF ((m : Int) + 1) [chainB m] := by
    refine ⟨by omega, by omega, by simp, fun b hb => ?_⟩
    have e : b = chainB m := by simpa using hb
    subst e
    refine ⟨chain_ok m hm1, ?_⟩
    show ((getI :: links m 1) ++ [putI m]).length ≤ _
    rw [List.length_append, List.length_cons, links_length, List.length_singleton]
    omega
  have hfw := Of_ev hok
  rw [List.map_cons, List.map_nil, chain_fwd m hm1] at hfw
  have hlen : ((getI :: linked m 1) ++ [putI 0]).length = m + 2 := by rw [List.length_append, List.length_cons, linked_length, List.length_singleton]
  have hrd : ∀ j : Nat, j ≤ m + 1 → 1 ≤ j → (rd_T40 ((getI :: linked m 1) ++ [putI 0]) (j : Int)).f2 = 0 := fun j hj hj1 => by
    unfold rd_T40
    rw [Int.toNat_natCast, List.getD_eq_getElem?_getD]
    by_cases hjm : j ≤ m
    · obtain ⟨j, rfl⟩ : ∃ i, j = i + 1 := ⟨j - 1, by omega⟩
      rw [List.getElem?_append_left (by rw [List.length_cons, linked_length]; omega), List.getElem?_cons_succ]
      obtain ⟨t, g1, g2⟩ := linked_f2 m 1 j (by omega)
      rw [g1]
      exact g2
    · obtain rfl : j = m + 1 := by omega
      rw [List.getElem?_append_right (by rw [List.length_cons, linked_length]; exact Nat.le_refl _), List.length_cons, linked_length]
      simp [putI]
  have hb0 : rd_T37 [(⟨(getI :: linked m 1) ++ [putI 0], 3, 0, 0, 0⟩ : S37)] 0 = ⟨(getI :: linked m 1) ++ [putI 0], 3, 0, 0, 0⟩ := rfl
  -- the run
  have hrun : ∃ x, Ev (fun k => seedcornref24_Run.f k 0 [(⟨(m : Int) + 1, [⟨(getI :: linked m 1) ++ [putI 0], 3, 0, 0, 0⟩]⟩ : S24)] inp 99) x ∧ x.1 = 1 := by
    obtain ⟨s', r', hK, hf⟩ := exec_block ⟨[⟨(m : Int) + 1, [⟨(getI :: linked m 1) ++ [putI 0], 3, 0, 0, 0⟩]⟩], bytesOf inp, 99⟩ ((m : Int) + 1) ⟨(getI :: linked m 1) ++ [putI 0], 3, 0, 0, 0⟩ rfl rfl (fun t ht => by
      have ht' : t ∈ (getI :: linked m 1) ++ [putI 0] := ht
      rcases List.mem_append.1 ht' with h | h
      · rcases List.mem_cons.1 h with rfl | h
        · exact .inr (.inl rfl)
        · exact .inl (linked_op m 1 t h)
      · have e : t = putI 0 := by simpa using h
        subst e
        exact .inr (.inr rfl)) (by show (((getI :: linked m 1) ++ [putI 0]).length : Int) + 1 < 99; rw [hlen]; omega) (by show ((getI :: linked m 1) ++ [putI 0]).length ≤ 65536; rw [hlen]; omega)
    have hp : okP 0 ⟨[⟨(m : Int) + 1, [⟨(getI :: linked m 1) ++ [putI 0], 3, 0, 0, 0⟩]⟩], bytesOf inp, 99⟩ := by
      refine ⟨Int.le_refl _, by omega, fun i hi => ?_, fun y hy => ?_⟩
      · have hi' : i < 1 := hi
        obtain rfl : i = 0 := by omega
        have hB := okB_block (chain_ok m hm1)
        rw [chain_fwd m hm1] at hB
        refine ⟨by show (0 : Int) ≤ (m : Int) + 1; omega, by show (m : Int) + 1 ≤ 4000; omega, by show 0 < 1; omega, by show 1 ≤ 1000000; omega, fun b hb => ?_⟩
        have e : b = ⟨(getI :: linked m 1) ++ [putI 0], 3, 0, 0, 0⟩ := by simpa [fnAt, rd_T24] using hb
        subst e
        refine ⟨fun t ht => ?_, by show ((getI :: linked m 1) ++ [putI 0]).length ≤ _; rw [hlen]; omega, ⟨by show (1 : Int) ≤ 3; omega, by show (3 : Int) ≤ 3; omega⟩, fun h => (by cases h), fun h => (by rcases h with h | h <;> cases h), fun h => (by cases h)⟩
        have hT := hB.1 t ht
        have hop : (t.f0 = 2 ∨ t.f0 = 8 ∨ t.f0 = 9) ∧ t.f7 = 0 := by
          have ht' : t ∈ (getI :: linked m 1) ++ [putI 0] := ht
          rcases List.mem_append.1 ht' with h | h
          · rcases List.mem_cons.1 h with rfl | h
            · exact ⟨.inr (.inl rfl), rfl⟩
            · refine ⟨.inl (linked_op m 1 t h), ?_⟩
              have : ∀ (n i : Nat), ∀ t ∈ linked n i, t.f7 = 0 := fun n => by
                induction n with
                | zero => intro i t ht; cases ht
                | succ n ih => intro i t ht; rw [linked] at ht; exact (List.mem_cons.1 ht).elim (fun e => by rw [e]) (fun h => ih (i + 1) t h)
              exact this m 1 t h
          · have e : t = putI 0 := by simpa using h
            subst e
            exact ⟨.inr (.inr rfl), rfl⟩
        obtain ⟨hop, h7⟩ := hop
        exact ⟨by omega, hT, by omega, fun h => by omega, fun h => by omega, fun h => by omega, fun h => by omega⟩
      · have hy' : y ∈ bytesOf inp := hy
        unfold bytesOf at hy'
        obtain ⟨b, _, rfl⟩ := List.mem_map.1 hy'
        have := b.toNat_lt
        omega
    refine ⟨_, runF_ev (b := true) (r' := r') ⟨hp, by omega, by omega, by omega, by simp, by simp⟩ hK, ?_⟩
    unfold resOf
    rw [if_pos hf]
  obtain ⟨x, hx, hx1⟩ := hrun
  have hl1 : ∀ (n i : Nat), 1 ≤ i → i + n = m + 1 → Ev (fun k => seedcornlaw31_ForwardChains.l1 k inp m i ((m : Int) + 1) [⟨(getI :: linked m 1) ++ [putI 0], 3, 0, 0, 0⟩]) true := by
    intro n
    induction n with
    | zero =>
      intro i hi1 hi2
      obtain rfl : i = m + 1 := by omega
      refine Ev.step (fun k => by rw [seedcornlaw31_ForwardChains.l1, if_neg (by omega)]) ?_
      refine Ev.bind hx (Ev.bind awake_ev (Ev.pos rfl (Ev.pos (by simp) ?_)))
      rw [wrap_id (by omega) (by omega), hb0]
      refine Ev.pos (by omega) (Ev.pos (by rw [hlen]; omega) (Ev.pos ?_ ?_))
      · exact hrd (m + 1) (Nat.le_refl _) (by omega)
      · exact Ev.eq (Ev.now _) (by rw [hx1]; rfl)
    | succ n ih =>
      intro i hi1 hi2
      refine Ev.step (fun k => by rw [seedcornlaw31_ForwardChains.l1, if_pos (by omega), if_pos (by simp), if_pos (by omega), hb0, if_pos (by rw [hlen]; omega), if_pos (hrd i (by omega) hi1), wrap_nat (n := 20) (by omega) (by omega)]) ?_
      exact ih (i + 1) (by omega) (by omega)
  refine chains_l0 (m := m) hm2 ?_ m 0 (by omega)
  rw [wrap_id (by omega) (by omega)]
  refine Ev.bind hfw (Ev.pos rfl (Ev.pos (by simp) ?_))
  rw [hb0]
  refine Ev.step (fun k => by rw [seedcornlaw31_ForwardChains.j1]) ?_
  refine Ev.neg (by rw [hlen, wrap_id (by omega) (by omega)]; simp) ?_
  exact hl1 m 1 (Nat.le_refl _) (by omega)
end Go.Proofs.Ytcfagmdopkginaa.RunW
