/- The plain law ForwardSwaps of layer 31, over lists alone. -/
import Derived.Test.YtcfagmdopkginaaRunSim
import Derived.Test.YtcfagmdopkginaaDoneB
import Derived.Test.YtcfagmdopkginaaPGw
namespace Go.Proofs.Ytcfagmdopkginaa.RunW
open Go.RowKit Go.Proofs.YtcfagmdopkginaaW.PrintWords Go.Proofs.Ytcfagmdopkginaa.PF Go.Proofs.Ytcfagmdopkginaa.Plain Go.Proofs.Ytcfagmdopkginaa.Args

/-! ### Three steps -/
section
variable {c : Cf} {k : Nat} {l : List S40} {r w o : List Int} {rd st d a : Int}
theorem ex_copy (hs : st < c.fuel) : exec c (k + 1) (.ins (⟨2, d, a, 0, 0, 0, 0, 0⟩ :: l) r) ⟨w, o, rd, st, 0⟩ = exec c k (.ins l (r.set d.toNat (rdOf 0 r a))) ⟨w, o, rd, st + 1, 0⟩ := by
  rw [exec, if_neg (by show ¬ c.fuel ≤ st; omega), if_neg (by show ¬ (2 : Int) = 10; omega)]
  rw [show oneM c.inp (⟨2, d, a, 0, 0, 0, 0, 0⟩ : S40) (tick ⟨w, o, rd, st, 0⟩) r = some (⟨w, o, rd, st + 1, 0⟩, r.set d.toNat (rdOf 0 r a)) by unfold oneM; rw [if_neg (by show ¬ (2 : Int) = 1; omega), if_pos rfl]; rfl, Option.bind_some]
  exact if_pos rfl
/-- What a read comes to: the value, and where the next read is. -/
def got (inp : List Int) (rd : Int) : Int × Int := if (inp.length : Int) ≤ rd then (256, rd) else (rdOf 0 inp rd, rd + 1)
theorem ex_get (hs : st < c.fuel) : exec c (k + 1) (.ins (⟨8, d, 0, 0, 0, 0, 0, 0⟩ :: l) r) ⟨w, o, rd, st, 0⟩ = exec c k (.ins l (r.set d.toNat (got c.inp rd).1)) ⟨w, o, (got c.inp rd).2, st + 1, 0⟩ := by
  rw [exec, if_neg (by show ¬ c.fuel ≤ st; omega), if_neg (by show ¬ (8 : Int) = 10; omega)]
  rw [show oneM c.inp (⟨8, d, 0, 0, 0, 0, 0, 0⟩ : S40) (tick ⟨w, o, rd, st, 0⟩) r = some (⟨w, o, (got c.inp rd).2, st + 1, 0⟩, r.set d.toNat (got c.inp rd).1) by
    unfold oneM
    rw [if_neg (by show ¬ (8 : Int) = 1; omega), if_neg (by show ¬ (8 : Int) = 2; omega), if_neg (by show ¬ (8 : Int) = 3; omega), if_neg (by show ¬ (8 : Int) = 4; omega), if_neg (by show ¬ (8 : Int) = 5; omega), if_neg (by show ¬ (8 : Int) = 6; omega), if_neg (by show ¬ (8 : Int) = 7; omega), if_pos rfl]
    unfold got
    by_cases h : (c.inp.length : Int) ≤ rd
    · rw [if_pos h]; exact if_pos h
    · rw [if_neg h]; exact if_neg h, Option.bind_some]
  exact if_pos rfl
theorem ex_put (hs : st < c.fuel) (ho : o.length < 65536) : exec c (k + 1) (.ins (⟨9, 0, a, 0, 0, 0, 0, 0⟩ :: l) r) ⟨w, o, rd, st, 0⟩ = exec c k (.ins l r) ⟨w, o ++ [rdOf 0 r a % 256], rd, st + 1, 0⟩ := by
  rw [exec, if_neg (by show ¬ c.fuel ≤ st; omega), if_neg (by show ¬ (9 : Int) = 10; omega)]
  rw [show oneM c.inp (⟨9, 0, a, 0, 0, 0, 0, 0⟩ : S40) (tick ⟨w, o, rd, st, 0⟩) r = some (⟨w, o ++ [rdOf 0 r a % 256], rd, st + 1, 0⟩, r) by
    unfold oneM
    rw [if_neg (by show ¬ (9 : Int) = 1; omega), if_neg (by show ¬ (9 : Int) = 2; omega), if_neg (by show ¬ (9 : Int) = 3; omega), if_neg (by show ¬ (9 : Int) = 4; omega), if_neg (by show ¬ (9 : Int) = 5; omega), if_neg (by show ¬ (9 : Int) = 6; omega), if_neg (by show ¬ (9 : Int) = 7; omega), if_neg (by show ¬ (9 : Int) = 8; omega), if_pos rfl, if_neg (by show ¬ 65536 ≤ o.length; omega)]
    rfl, Option.bind_some]
  exact if_pos rfl
end

/-! ### The swaps -/
def sw : List S40 := [⟨2, 2, 0, 0, 0, 0, 0, 0⟩, ⟨2, 0, 1, 0, 0, 0, 0, 0⟩, ⟨2, 1, 2, 0, 0, 0, 0, 0⟩]
def sws : Nat → List S40
  | 0 => []
  | n + 1 => sws n ++ sw
def gets : List S40 := [⟨8, 0, 0, 0, 0, 0, 0, 0⟩, ⟨8, 1, 0, 0, 0, 0, 0, 0⟩]
def puts : List S40 := [⟨9, 0, 0, 0, 0, 0, 0, 0⟩, ⟨9, 0, 1, 0, 0, 0, 0, 0⟩]
def swapB (m : Nat) : S37 := ⟨(gets ++ sws m) ++ puts, 3, 0, 0, 0⟩
theorem sws_length : ∀ n, (sws n).length = 3 * n
  | 0 => rfl
  | n + 1 => by rw [sws, List.length_append, sws_length n]; show 3 * n + 3 = _; omega
theorem swapB_length (m : Nat) : (swapB m).f0.length = 3 * m + 4 := by
  show ((gets ++ sws m) ++ puts).length = _
  rw [List.length_append, List.length_append, sws_length]
  show 2 + 3 * m + 2 = _
  omega

theorem ex_sws {c : Cf} {w o : List Int} {rd : Int} {x y : Int} : ∀ (n : Nat) (z : Int) (l : List S40) (st : Int), st + 3 * n ≤ c.fuel → ∃ z', ∀ k,
    exec c (k + 3 * n) (.ins (sws n ++ l) [x, y, z]) ⟨w, o, rd, st, 0⟩ = exec c k (.ins l [if n % 2 = 1 then y else x, if n % 2 = 1 then x else y, z']) ⟨w, o, rd, st + 3 * n, 0⟩
  | 0, z, l, st, _ => ⟨z, fun k => by rw [show st + 3 * ((0 : Nat) : Int) = st by omega]; rfl⟩
  | n + 1, z, l, st, hst => by
    obtain ⟨z', hz⟩ := ex_sws (c := c) (w := w) (o := o) (rd := rd) (x := x) (y := y) n z (sw ++ l) st (by omega)
    refine ⟨if n % 2 = 1 then y else x, fun k => ?_⟩
    have h := hz (k + 3)
    rw [show k + 3 + 3 * n = k + 3 * (n + 1) by omega] at h
    rw [sws, List.append_assoc, h]
    show exec c (k + 2 + 1) (.ins (⟨2, 2, 0, 0, 0, 0, 0, 0⟩ :: ⟨2, 0, 1, 0, 0, 0, 0, 0⟩ :: ⟨2, 1, 2, 0, 0, 0, 0, 0⟩ :: l) _) _ = _
    rw [ex_copy (by omega), ex_copy (by omega), ex_copy (by omega)]
    rw [show st + 3 * (n : Int) + 1 + 1 + 1 = st + 3 * ((n + 1 : Nat) : Int) by omega]
    congr 2
    by_cases hn : n % 2 = 1
    · have hn1 : ¬ (n + 1) % 2 = 1 := by omega
      simp only [if_pos hn, if_neg hn1]
      rfl
    · have hn1 : (n + 1) % 2 = 1 := by omega
      simp only [if_neg hn, if_pos hn1]
      rfl

def gotX (inp : List Int) : Int := (got inp 0).1
def gotY (inp : List Int) : Int := (got inp (got inp 0).2).1
theorem swap_run {c : Cf} {m : Nat} (hm : m ≤ 8) (hfs : c.fs = [⟨3, [swapB m]⟩]) (hfu : c.fuel = 99) : ∃ s' r', Ev (fun k => exec c k (.fn 0) (initS 0)) (true, s', r') ∧ s'.fin = 0 ∧
    s'.out = [(if m % 2 = 1 then gotY c.inp else gotX c.inp) % 256, (if m % 2 = 1 then gotX c.inp else gotY c.inp) % 256] := by
  obtain ⟨z', hz⟩ := ex_sws (c := c) (w := (initS 0).words) (o := []) (rd := (got c.inp (got c.inp 0).2).2) (x := gotX c.inp) (y := gotY c.inp) m 0 puts 2 (by omega)
  have hins : ∀ k, exec c (k + 3 + 3 * m + 2) (.ins (swapB m).f0 [0, 0, 0]) (initS 0) = some (false, ⟨(initS 0).words, [(if m % 2 = 1 then gotY c.inp else gotX c.inp) % 256, (if m % 2 = 1 then gotX c.inp else gotY c.inp) % 256], (got c.inp (got c.inp 0).2).2, 2 + 3 * m + 1 + 1, 0⟩, [if m % 2 = 1 then gotY c.inp else gotX c.inp, if m % 2 = 1 then gotX c.inp else gotY c.inp, z']) := fun k => by
    have e : (swapB m).f0 = ⟨8, 0, 0, 0, 0, 0, 0, 0⟩ :: ⟨8, 1, 0, 0, 0, 0, 0, 0⟩ :: (sws m ++ puts) := by
      show (gets ++ sws m) ++ puts = _
      rw [List.append_assoc]
      rfl
    rw [e]
    show exec c (k + 3 + 3 * m + 1 + 1) _ ⟨(initS 0).words, [], 0, 0, 0⟩ = _
    rw [ex_get (by omega), ex_get (by omega)]
    have h := hz (k + 3)
    refine Eq.trans h ?_
    show exec c (k + 1 + 1 + 1) (.ins (⟨9, 0, 0, 0, 0, 0, 0, 0⟩ :: ⟨9, 0, 1, 0, 0, 0, 0, 0⟩ :: []) _) _ = _
    rw [ex_put (by omega) (by show 0 < 65536; omega), ex_put (by omega) (by show 1 < 65536; omega), exec]
    rfl
  refine ⟨tick ⟨(initS 0).words, [(if m % 2 = 1 then gotY c.inp else gotX c.inp) % 256, (if m % 2 = 1 then gotX c.inp else gotY c.inp) % 256], (got c.inp (got c.inp 0).2).2, 2 + 3 * m + 1 + 1, 0⟩, [if m % 2 = 1 then gotY c.inp else gotX c.inp, if m % 2 = 1 then gotX c.inp else gotY c.inp, z'], ⟨3 * m + 10, fun k hk => ?_⟩, rfl, rfl⟩
  obtain ⟨k, rfl⟩ : ∃ j, k = j + 3 + 3 * m + 2 + 2 := ⟨k - (3 * m + 7), by omega⟩
  show exec c (k + 3 + 3 * m + 2 + 2) (.fn 0) (initS 0) = _
  rw [exec, exec]
  have hf : fnAt c.fs 0 = ⟨3, [swapB m]⟩ := by rw [hfs]; rfl
  rw [hf]
  have hb : rd_T37 [swapB m] 0 = swapB m := rfl
  have hz0 : zeros 3 = [0, 0, 0] := rfl
  rw [hb, hz0, hins k, Option.bind_some]
  dsimp only
  rw [if_neg (by simp), if_neg (by rw [hfu]; omega), if_pos (show (swapB m).f1 = 3 from rfl)]

/-! ### The swaps are well made -/
theorem swap_ins {m : Nat} {P : S40 → Prop} (hg : ∀ t ∈ gets, P t) (hs : ∀ t ∈ sw, P t) (hp : ∀ t ∈ puts, P t) : ∀ t ∈ (swapB m).f0, P t := by
  have h : ∀ n, ∀ t ∈ sws n, P t := fun n => by
    induction n with
    | zero => intro t ht; cases ht
    | succ n ih => intro t ht; exact (List.mem_append.1 ht).elim (ih t) (hs t)
  intro t ht
  have ht' : t ∈ (gets ++ sws m) ++ puts := ht
  rcases List.mem_append.1 ht' with h1 | h1
  · rcases List.mem_append.1 h1 with h2 | h2
    · exact hg t h2
    · exact h m t h2
  · exact hp t h1
theorem swap_ok (m : Nat) : okB 3 (swapB m) := by
  refine ⟨swap_ins (fun t ht => ?_) (fun t ht => ?_) (fun t ht => ?_), fun h => (by cases h)⟩
  · have : t = ⟨8, 0, 0, 0, 0, 0, 0, 0⟩ ∨ t = ⟨8, 1, 0, 0, 0, 0, 0, 0⟩ := by simpa [gets] using ht
    rcases this with rfl | rfl
    · exact ⟨fun h => (by cases h), fun h => (by cases h), fun _ => ⟨by decide, by decide⟩⟩
    · exact ⟨fun h => (by cases h), fun h => (by cases h), fun _ => ⟨by decide, by decide⟩⟩
  · have : t = ⟨2, 2, 0, 0, 0, 0, 0, 0⟩ ∨ t = ⟨2, 0, 1, 0, 0, 0, 0, 0⟩ ∨ t = ⟨2, 1, 2, 0, 0, 0, 0, 0⟩ := by simpa [sw] using ht
    rcases this with rfl | rfl | rfl
    · exact ⟨fun _ => ⟨by decide, by decide⟩, fun h => (by cases h), fun _ => ⟨by decide, by decide⟩⟩
    · exact ⟨fun _ => ⟨by decide, by decide⟩, fun h => (by cases h), fun _ => ⟨by decide, by decide⟩⟩
    · exact ⟨fun _ => ⟨by decide, by decide⟩, fun h => (by cases h), fun _ => ⟨by decide, by decide⟩⟩
  · have : t = ⟨9, 0, 0, 0, 0, 0, 0, 0⟩ ∨ t = ⟨9, 0, 1, 0, 0, 0, 0, 0⟩ := by simpa [puts] using ht
    rcases this with rfl | rfl
    · exact ⟨fun _ => ⟨by decide, by decide⟩, fun h => (by cases h), fun h => (by cases h)⟩
    · exact ⟨fun _ => ⟨by decide, by decide⟩, fun h => (by cases h), fun h => (by cases h)⟩
theorem swap_op (m : Nat) : ∀ t ∈ (swapB m).f0, (t.f0 = 2 ∨ t.f0 = 8 ∨ t.f0 = 9) ∧ t.f7 = 0 := by
  refine swap_ins (fun t ht => ?_) (fun t ht => ?_) (fun t ht => ?_)
  · have : t = ⟨8, 0, 0, 0, 0, 0, 0, 0⟩ ∨ t = ⟨8, 1, 0, 0, 0, 0, 0, 0⟩ := by simpa [gets] using ht
    rcases this with rfl | rfl <;> exact ⟨.inr (.inl rfl), rfl⟩
  · have : t = ⟨2, 2, 0, 0, 0, 0, 0, 0⟩ ∨ t = ⟨2, 0, 1, 0, 0, 0, 0, 0⟩ ∨ t = ⟨2, 1, 2, 0, 0, 0, 0, 0⟩ := by simpa [sw] using ht
    rcases this with rfl | rfl | rfl <;> exact ⟨.inl rfl, rfl⟩
  · have : t = ⟨9, 0, 0, 0, 0, 0, 0, 0⟩ ∨ t = ⟨9, 0, 1, 0, 0, 0, 0, 0⟩ := by simpa [puts] using ht
    rcases this with rfl | rfl <;> exact ⟨.inr (.inr rfl), rfl⟩
theorem run_op {Q : Int → Int → Prop} : ∀ (l : List S40) (c : List Int), (∀ t ∈ l, Q t.f0 t.f7) → ∀ t ∈ (run c l).1, Q t.f0 t.f7
  | [], _, _ => fun t ht => by simp [run] at ht
  | t :: l, c, hl => fun u hu => by
    simp only [run, List.mem_cons] at hu
    rcases hu with rfl | hu
    · exact hl t (by simp)
    · exact run_op l _ (fun u hu => hl u (by simp [hu])) u hu

theorem swap_okP {m : Nat} (hm : m ≤ 8) {inp : ByteArray} {fuel : Int} : okP 0 ⟨[⟨3, [blockM 3 (swapB m)]⟩], bytesOf inp, fuel⟩ := by
  have hlen : (blockM 3 (swapB m)).f0.length = 3 * m + 4 := (run_length _ _).trans (swapB_length m)
  refine ⟨Int.le_refl _, by omega, fun i hi => ?_, fun y hy => ?_⟩
  · have hi' : i < 1 := hi
    obtain rfl : i = 0 := by omega
    have hB := okB_block (swap_ok m)
    refine ⟨by show (0 : Int) ≤ 3; omega, by show (3 : Int) ≤ 4000; omega, by show 0 < 1; omega, by show 1 ≤ 1000000; omega, fun b hb => ?_⟩
    have e : b = blockM 3 (swapB m) := by simpa [fnAt, rd_T24] using hb
    subst e
    refine ⟨fun t ht => ?_, by rw [hlen]; omega, ⟨by show (1 : Int) ≤ 3; omega, by show (3 : Int) ≤ 3; omega⟩, fun h => (by cases h), fun h => (by rcases h with h | h <;> cases h), fun h => (by cases h)⟩
    have hT := hB.1 t ht
    obtain ⟨hop, h7⟩ := run_op (Q := fun a b => (a = 2 ∨ a = 8 ∨ a = 9) ∧ b = 0) (swapB m).f0 (none_ 3) (swap_op m) t ht
    exact ⟨by omega, hT, by omega, fun h => by omega, fun h => by omega, fun h => by omega, fun h => by omega⟩
  · have hy' : y ∈ bytesOf inp := hy
    unfold bytesOf at hy'
    obtain ⟨b, _, rfl⟩ := List.mem_map.1 hy'
    have := b.toNat_lt
    omega

theorem swaps_l0 {m : Nat} {inp : ByteArray} (hm : m ≤ 8) {r : Bool} (h : ∀ x7 : Int, x7 = m → Ev (fun k => seedcornlaw31_ForwardSwaps.l0 k inp m x7 (gets ++ sws m) 3 0 0 0) r) :
    ∀ (n i : Nat), i + n = m → Ev (fun k => seedcornlaw31_ForwardSwaps.l0 k inp m i (gets ++ sws i) 3 0 0 0) r
  | 0, i, hi => by
    obtain rfl : i = m := by omega
    exact h _ rfl
  | n + 1, i, hi => by
    refine Ev.step (fun k => by rw [seedcornlaw31_ForwardSwaps.l0, if_pos (by omega), Option.bind_some, if_pos (by rw [List.length_append, sws_length]; show 2 + 3 * i + 3 < _; omega), wrap_nat (n := 20) (by omega) (by omega)]) ?_
    have := swaps_l0 hm h n (i + 1) (by omega)
    rw [sws, ← List.append_assoc] at this
    exact this

/-! ### The two bytes -/
def one (x : Int) : ByteArray := ⟨#[UInt8.ofNat (x % 256).toNat]⟩
theorem got_byte {l : List UInt8} {b : UInt8} {i : Nat} (h : l[i]? = some b) : (got (l.map fun b => (b.toNat : Int)) i).1 = (b.toNat : Int) := by
  unfold got
  have hi : i < l.length := by
    rcases Nat.lt_or_ge i l.length with h1 | h1
    · exact h1
    · rw [List.getElem?_eq_none h1] at h; cases h
  rw [if_neg (by rw [List.length_map]; omega)]
  unfold rdOf
  rw [Int.toNat_natCast, List.getD_eq_getElem?_getD, List.getElem?_map, h]
  rfl
theorem one_byte (b : UInt8) : one (b.toNat : Int) = ⟨#[b]⟩ := by
  unfold one
  have h := b.toNat_lt
  rw [show ((b.toNat : Int) % 256).toNat = b.toNat by omega]
  simp
theorem cut_x (inp : ByteArray) : (if (inp.size : Int) > 0 then inp.extract 0 1 else ⟨#[0]⟩) = one (gotX (bytesOf inp)) := by
  obtain ⟨⟨l⟩⟩ := inp
  cases l with
  | nil => rfl
  | cons a l =>
    have e : gotX (bytesOf ⟨⟨a :: l⟩⟩) = (a.toNat : Int) := got_byte (l := a :: l) (i := 0) rfl
    rw [e, one_byte, if_pos (by show ((l.length + 1 : Nat) : Int) > 0; omega)]
    apply ByteArray.ext
    rw [ByteArray.data_extract]
    simp
theorem cut_y (inp : ByteArray) : (if (inp.size : Int) > 1 then inp.extract 1 2 else ⟨#[0]⟩) = one (gotY (bytesOf inp)) := by
  obtain ⟨⟨l⟩⟩ := inp
  cases l with
  | nil => rfl
  | cons a l =>
    have h0 : (got (bytesOf ⟨⟨a :: l⟩⟩) 0).2 = 1 := by
      unfold got
      rw [if_neg (by show ¬ ((((a :: l).map fun b : UInt8 => (b.toNat : Int)).length : Nat) : Int) ≤ 0; rw [List.length_map, List.length_cons]; omega)]
      rfl
    unfold gotY
    rw [h0]
    cases l with
    | nil => rfl
    | cons b l =>
      have e : (got (bytesOf ⟨⟨a :: b :: l⟩⟩) 1).1 = (b.toNat : Int) := got_byte (l := a :: b :: l) (i := 1) rfl
      rw [e, one_byte, if_pos (by show ((l.length + 1 + 1 : Nat) : Int) > 1; omega)]
      apply ByteArray.ext
      rw [ByteArray.data_extract]
      simp
theorem two_one (x y : Int) : one x ++ one y = ⟨#[UInt8.ofNat (x % 256).toNat, UInt8.ofNat (y % 256).toNat]⟩ := by
  apply ByteArray.ext
  rw [ByteArray.data_append]
  simp [one]

theorem pureSwaps {n : Int} {inp : ByteArray} (h0 : 0 ≤ n) (_h1 : n ≤ 255) : ∃ k, seedcornlaw31_ForwardSwaps.f k n inp = some true := by
  refine Ev.rounds (g := fun k => seedcornlaw31_ForwardSwaps.f k n inp) ?_
  unfold seedcornlaw31_ForwardSwaps.f
  refine Ev.ite (fun _ => Ev.bind awake_ev (Ev.now _)) (fun hi => ?_)
  obtain ⟨m, hm, hm2⟩ : ∃ m : Nat, wrap64 (Int.tmod n 9) = (m : Int) ∧ m ≤ 8 := by
    have e : Int.tmod n 9 = n % 9 := Int.tmod_eq_emod_of_nonneg h0
    refine ⟨(n % 9).toNat, ?_, by omega⟩
    rw [e, wrap_id (x := n % 9) (by omega) (by omega)]
    omega
  rw [hm]
  have hok : okF 3 [swapB m] := by
    refine ⟨by omega, by omega, by simp, fun b hb => ?_⟩
    have e : b = swapB m := by simpa using hb
    subst e
    exact ⟨swap_ok m, by rw [swapB_length]; omega⟩
  have hfw := Of_ev hok
  rw [List.map_cons, List.map_nil] at hfw
  -- the run
  obtain ⟨s', r', hK, hf, hout⟩ := swap_run (c := ⟨[⟨3, [swapB m]⟩], bytesOf inp, 99⟩) hm2 rfl rfl
  have hsim : okFs ⟨[⟨3, [swapB m]⟩], bytesOf inp, 99⟩ := fun f hf => by
    have e : f = ⟨3, [swapB m]⟩ := by simpa using hf
    subst e
    refine ⟨by show (0 : Int) ≤ 3; omega, fun b hb => ?_⟩
    have e : b = swapB m := by simpa using hb
    subst e
    exact swap_ok m
  have hK2 : Ev (fun k => exec ⟨[⟨3, [blockM 3 (swapB m)]⟩], bytesOf inp, 99⟩ k (.fn 0) (initS 0)) (true, s', r') := by
    obtain ⟨K, hK⟩ := hK
    exact ⟨K, fun k hk => (sim_all hsim k).fn 0 (initS 0) rfl _ (hK k hk)⟩
  have hrun : Ev (fun k => seedcornref24_Run.f k 0 [(⟨3, [blockM 3 (swapB m)]⟩ : S24)] inp 99) (resOf s') := runF_ev (b := true) (r' := r') ⟨swap_okP hm2, by omega, by omega, by omega, by simp, by simp⟩ hK2
  have hres1 : (resOf s').1 = 1 := by unfold resOf; rw [if_pos hf]
  have hres2 : (resOf s').2.1 = one (if m % 2 = 1 then gotY (bytesOf inp) else gotX (bytesOf inp)) ++ one (if m % 2 = 1 then gotX (bytesOf inp) else gotY (bytesOf inp)) := by
    unfold resOf
    rw [hout, two_one]
    rfl
  have hdone : Ev (fun k => seedcornref31_Done.f k ((rd_T37 [blockM 3 (swapB m)] 0).f0) ((rd_T37 [blockM 3 (swapB m)] 0).f1) ((rd_T37 [blockM 3 (swapB m)] 0).f2) ((rd_T37 [blockM 3 (swapB m)] 0).f3) ((rd_T37 [blockM 3 (swapB m)] 0).f4)) true := done_block (swap_ok m) (by rw [swapB_length]; omega)
  refine swaps_l0 (m := m) hm2 (fun x7 hx7 => ?_) m 0 (by omega)
  subst hx7
  refine Ev.step (fun k => by rw [seedcornlaw31_ForwardSwaps.l0, if_neg (by omega), Option.bind_some, if_pos (by rw [List.length_append, sws_length]; show 2 + 3 * m + 2 < _; omega)]) ?_
  refine Ev.bind hfw (Ev.bind hrun ?_)
  dsimp only
  have hj2 : ∀ u v : ByteArray, u = one (gotX (bytesOf inp)) → v = one (gotY (bytesOf inp)) → Ev (fun k => seedcornlaw31_ForwardSwaps.j2 k m u v 3 [blockM 3 (swapB m)] (resOf s').1 (resOf s').2.1 (resOf s').2.2) true := fun u v hu hv => by
    refine Ev.step (fun k => by rw [seedcornlaw31_ForwardSwaps.j2]) ?_
    have hsz : u.size = 1 ∧ v.size = 1 := by rw [hu, hv]; exact ⟨rfl, rfl⟩
    refine Ev.ite (fun hodd => ?_) (fun hev => ?_)
    · have hm3 : m % 2 = 1 := by
        have e : Int.tmod (m : Int) 2 = (m : Int) % 2 := Int.tmod_eq_emod_of_nonneg (by omega)
        omega
      rw [if_pos hm3, if_pos hm3] at hres2
      refine Ev.bind awake_ev (Ev.pos rfl (Ev.pos hres1 (Ev.pos (by omega) (Ev.pos (by rw [hres2, hu, hv]) (Ev.pos rfl (Ev.pos (by simp) ?_))))))
      exact Ev.bind hdone (Ev.now _)
    · have hm3 : ¬ m % 2 = 1 := by
        have e : Int.tmod (m : Int) 2 = (m : Int) % 2 := Int.tmod_eq_emod_of_nonneg (by omega)
        omega
      rw [if_neg hm3, if_neg hm3] at hres2
      refine Ev.bind awake_ev (Ev.pos rfl (Ev.pos hres1 (Ev.pos (by omega) (Ev.pos (by rw [hres2, hu, hv]) (Ev.pos rfl (Ev.pos (by simp) ?_))))))
      exact Ev.bind hdone (Ev.now _)
  have hj1 : ∀ u : ByteArray, u = one (gotX (bytesOf inp)) → Ev (fun k => seedcornlaw31_ForwardSwaps.j1 k inp m u ⟨#[0]⟩ 3 [blockM 3 (swapB m)] (resOf s').1 (resOf s').2.1 (resOf s').2.2) true := fun u hu => by
    have hy := cut_y inp
    refine Ev.step (fun k => by rw [seedcornlaw31_ForwardSwaps.j1]) ?_
    refine Ev.ite (fun h => ?_) (fun h => ?_)
    · rw [if_pos h] at hy
      exact Ev.pos (by omega) (Ev.pos (by omega) (hj2 u _ hu hy))
    · rw [if_neg h] at hy
      exact hj2 u _ hu hy
  have hx := cut_x inp
  refine Ev.ite (fun h => ?_) (fun h => ?_)
  · rw [if_pos h] at hx
    exact Ev.pos (by omega) (Ev.pos (by omega) (hj1 _ hx))
  · rw [if_neg h] at hx
    exact hj1 _ hx
end Go.Proofs.Ytcfagmdopkginaa.RunW
