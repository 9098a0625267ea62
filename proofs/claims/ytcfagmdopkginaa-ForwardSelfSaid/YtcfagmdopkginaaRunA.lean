import Derived.Test.YtcfagmdopkginaaY
import Derived.Test.YtcfagmdopkginaaRunM
import Derived.Test.YtcfagmdopkginaaProg
import Derived.StillTailTactics
import Derived.Deep.QuietTactic
import Derived.BigQuiet
namespace Go.Proofs.Ytcfagmdopkginaa.RunW
open Go.RowKit Go.Proofs.YtcfagmdopkginaaW.PrintWords Go.Proofs.YtcfagmdopkginaaW.PrintLast Go.Proofs.YtcfagmdopkginaaW.PrintMore
set_option linter.unusedVariables false

abbrev U32 : Kd Int := Kd.int .u32
abbrev U8 : Kd Int := Kd.int .u8
abbrev tacV (op d a b k bs sz n : Int) : Value := .agg #[.int .i64 op, .int .i64 d, .int .i64 a, .int .i64 b, .int .i64 k, .int .i64 bs, .int .i64 sz, .int .u32 n]
abbrev rn (bw : Int) (vf : Value) (inp : ByteArray) (fuel : Int) (vw vo : Value) (rd st fin : Int) : Obj :=
  .cells #[.int .i64 bw, vf, .string inp, .int .i64 fuel, vw, vo, .int .i64 rd, .int .i64 st, .int .i64 fin] 68 (0, 0)

/-- What is fixed in a run. -/
structure Fx where
  w0 : World
  g : Nat
  bw : Int
  fuel : Int
  vf : Value
  inp : ByteArray
  vw : Value

/-- The runner lies in the world; what was there when the call (w) began, but for what it owns, is as it was. -/
structure St (x : Fx) (w W : World) (vo0 vo : Value) (s : RS) (S : Nat → Prop) : Prop where
  blk : W.heap[x.g]? = some (rn x.bw x.vf x.inp x.fuel x.vw vo s.rd s.st s.fin)
  ws : U32.R 38 W x.w0.heap.size (fun _ => True) x.vw s.words
  ou : U8.R 5 W x.w0.heap.size (fun _ => True) vo s.out
  ge : x.w0.heap.size ≤ x.g
  below : Below x.w0.heap.size x.w0 W
  kept : Kept w W (fun k => S k ∨ k = x.g ∨ some k = x.vw.ownBlock ∨ some k = vo0.ownBlock)
  fresh : ∀ k, vo.ownBlock = some k → vo0.ownBlock = some k ∨ w.heap.size ≤ k

variable {x : Fx} {w W : World} {vo0 vo vr : Value} {s : RS} {S : Nat → Prop} {regs : List Int}

theorem St.of_below {W2 : World} (h : St x w W vo0 vo s S) (hb : Below W.heap.size W W2) : St x w W2 vo0 vo s S where
  blk := blk_below h.blk hb
  ws := Kd.R_below h.ws hb
  ou := Kd.R_below h.ou hb
  ge := h.ge
  below := h.below.trans (hb.mono h.below.size)
  kept := h.kept.below hb
  fresh := h.fresh

theorem St.alloc (h : St x w W vo0 vo s S) (o : Obj) : St x w (W.alloc o) vo0 vo s S := h.of_below (below_alloc (Below.refl _ _) o)
theorem St.drew (h : St x w W vo0 vo s S) : St x w W.drew vo0 vo s S := h.of_below (Below.refl _ _).drew
theorem St.drewN (h : St x w W vo0 vo s S) (n : Nat) : St x w (W.drewN n) vo0 vo s S := h.of_below (pw_below_drewN (Below.refl _ _) n)

theorem grown_setCell (w : World) (a : Addr) (u : Value) : w.grownBy (w.setCell a u) (some a.block) := by
  have hb := (Below.refl 0 w).setCell (p := a) (Nat.zero_le _) u
  exact ⟨hb.os, hb.tape, hb.output, hb.size, fun i hi hne => Below.heap_setCell w a u i (fun e => hne (by rw [e]))⟩

theorem ne_blk {vr : Value} {e : Nat} {d : Kd Int} {base : Nat} {ok : Nat → Prop} (hr : d.R e W base ok vr regs) {g t : Nat} {cs : Array Value} (hb : W.heap[g]? = some (.cells cs t (0, 0))) (ht : e ≠ t) : some g ≠ vr.ownBlock := Kd.R_ne hr hb ht

/-- A store into the runner's own cells, other than those that hold the words and what was put out. -/
theorem St.cell (h : St x w W vo0 vo s S) (i : Nat) (u : Value) (s' : RS) (hw : s'.words = s.words) (ho : s'.out = s.out)
    (e : (#[.int .i64 x.bw, x.vf, .string x.inp, .int .i64 x.fuel, x.vw, vo, .int .i64 s.rd, .int .i64 s.st, .int .i64 s.fin] : Array Value).setIfInBounds i u = #[.int .i64 x.bw, x.vf, .string x.inp, .int .i64 x.fuel, x.vw, vo, .int .i64 s'.rd, .int .i64 s'.st, .int .i64 s'.fin]) :
    St x w (W.setCell ⟨x.g, i, none⟩ u) vo0 vo s' S where
  blk := blk_put h.blk i u e
  ws := by
    rw [hw]
    exact Kd.R_grown1 h.ws rfl (grown_setCell W ⟨x.g, i, none⟩ u) (Kd.R_ne h.ws h.blk (by decide))
  ou := by
    rw [ho]
    exact Kd.R_grown1 h.ou rfl (grown_setCell W ⟨x.g, i, none⟩ u) (Kd.R_ne h.ou h.blk (by decide))
  ge := h.ge
  below := h.below.setCell h.ge u
  kept := h.kept.setCell (.inl (.inr (.inl rfl))) u
  fresh := h.fresh

/-- A store into a row of numbers (words or registers) that is not the runner's. -/
theorem St.reg {gr n cap : Nat} (h : St x w W vo0 vo s S) (hr : U32.R 38 W x.w0.heap.size (fun _ => True) (.slice (some ⟨gr, 0, none⟩) n cap) regs) (hne : x.vw.ownBlock ≠ some gr) (hS : S gr ∨ w.heap.size ≤ gr) (i : Int) (v : Int) :
    St x w (W.setCell ⟨gr, i.toNat, none⟩ (.int .u32 v)) vo0 vo s S ∧ U32.R 38 (W.setCell ⟨gr, i.toNat, none⟩ (.int .u32 v)) x.w0.heap.size (fun _ => True) (.slice (some ⟨gr, 0, none⟩) n cap) (regs.set i.toNat v) := by
  obtain ⟨hp, hg⟩ := Kd.R_putg hr i v
  have hgt : x.w0.heap.size ≤ gr := Kd.R_base hr gr rfl
  have hng : some x.g ≠ (Value.slice (some ⟨gr, 0, none⟩) n cap).ownBlock := Kd.R_ne hr h.blk (by decide)
  refine ⟨⟨blk_grown h.blk hg hng, Kd.R_grown1 h.ws rfl hg (fun e => hne e.symm), Kd.R_grown1 h.ou rfl hg ?_, h.ge, h.below.setCell hgt _, ?_, h.fresh⟩, hp⟩
  · obtain ⟨cells, hc⟩ := Kd.R_typed hr gr rfl
    exact Kd.R_ne h.ou hc (by decide)
  · exact h.kept.setCell (hS.elim (fun z => .inl (.inl z)) .inr) _

/-- A store into the runner's words; the registers stay. -/
theorem St.word {gw n cap : Nat} (h : St x w W vo0 vo s S) (hvw : x.vw = .slice (some ⟨gw, 0, none⟩) n cap) (hr : U32.R 38 W x.w0.heap.size (fun _ => True) vr regs) (hne : vr.ownBlock ≠ some gw) (i : Int) (v : Int) :
    St x w (W.setCell ⟨gw, i.toNat, none⟩ (.int .u32 v)) vo0 vo { s with words := s.words.set i.toNat v } S ∧ U32.R 38 (W.setCell ⟨gw, i.toNat, none⟩ (.int .u32 v)) x.w0.heap.size (fun _ => True) vr regs := by
  have hws := h.ws
  rw [hvw] at hws
  obtain ⟨hp, hg⟩ := Kd.R_putg hws i v
  have hgt : x.w0.heap.size ≤ gw := Kd.R_base hws gw rfl
  have hng : some x.g ≠ (Value.slice (some ⟨gw, 0, none⟩) n cap).ownBlock := Kd.R_ne hws h.blk (by decide)
  have hown : x.vw.ownBlock = some gw := by rw [hvw]; rfl
  refine ⟨⟨blk_grown h.blk hg hng, ?_, Kd.R_grown1 h.ou rfl hg ?_, h.ge, h.below.setCell hgt _, ?_, h.fresh⟩, Kd.R_grown1 hr rfl hg (fun e => hne e.symm)⟩
  · rw [hvw]; exact hp
  · obtain ⟨cells, hc⟩ := Kd.R_typed hws gw rfl
    exact Kd.R_ne h.ou hc (by decide)
  · exact Kept.setCell (p := ⟨gw, i.toNat, none⟩) h.kept (.inl (.inr (.inr (.inl hown.symm)))) _

/-- The runner's own cells are written: the registers stay. -/
theorem St.cell_regs (h : St x w W vo0 vo s S) (hr : U32.R 38 W x.w0.heap.size (fun _ => True) vr regs) (i : Nat) (u : Value) : U32.R 38 (W.setCell ⟨x.g, i, none⟩ u) x.w0.heap.size (fun _ => True) vr regs :=
  Kd.R_grown1 hr rfl (grown_setCell W ⟨x.g, i, none⟩ u) (Kd.R_ne hr h.blk (by decide))


theorem own_ne2 {e e' : Nat} {α β : Type} {d : Kd α} {d' : Kd β} {base base' : Nat} {ok ok' : Nat → Prop} {v v' : Value} {xs : List α} {ys : List β} (h : d.R e W base ok v xs) (h' : d'.R e' W base' ok' v' ys) (hne : e ≠ e') (k : Nat) (h1 : v.ownBlock = some k) (h2 : v'.ownBlock = some k) : False := by
  obtain ⟨c, hc⟩ := Kd.R_typed h' k h2
  exact Kd.R_ne h hc hne h1.symm

/-- What was put out has grown by a byte. -/
theorem St.append {w1 : World} {v1 : Value} {l : List Int} (h : St x w W vo0 vo s S) (hr : U8.R 5 w1 x.w0.heap.size (fun _ => True) v1 l) (hb : Below x.w0.heap.size x.w0 w1) (hg : W.grownBy w1 vo.ownBlock)
    (hat : v1.ownBlock = vo.ownBlock ∨ ∃ b, v1.ownBlock = some b ∧ W.heap.size ≤ b) : St x w (w1.setCell ⟨x.g, 5, none⟩ v1) vo0 v1 { s with out := l } S := by
  have hne : some x.g ≠ vo.ownBlock := Kd.R_ne h.ou h.blk (by decide)
  have hblk := blk_grown h.blk hg hne
  have hwne : vo.ownBlock ≠ x.vw.ownBlock ∨ vo.ownBlock = none := by
    cases hv : vo.ownBlock with
    | none => exact .inr rfl
    | some k => exact .inl (fun e => own_ne2 h.ou h.ws (by decide) k hv e.symm)
  have hws : U32.R 38 w1 x.w0.heap.size (fun _ => True) x.vw s.words := by
    rcases hwne with hwne | hwne
    · exact Kd.R_grown1 h.ws rfl hg hwne
    · refine Kd.R_step h.ws (fun k hk hlt => hg.block k hlt (by rw [hwne]; simp))
  have hgn : x.g < W.heap.size := blk_lt h.blk
  refine ⟨blk_put hblk 5 v1 rfl, Kd.R_grown1 hws rfl (grown_setCell w1 ⟨x.g, 5, none⟩ v1) (Kd.R_ne hws hblk (by decide)), ?_, h.ge, hb.setCell h.ge v1, ?_, ?_⟩
  · refine Kd.R_grown1 hr rfl (grown_setCell w1 ⟨x.g, 5, none⟩ v1) ?_
    show some x.g ≠ v1.ownBlock
    exact Kd.R_ne hr hblk (by decide)
  · refine Kept.setCell (Kept.of_grown hg h.kept (fun k hk => ?_)) (p := ⟨x.g, 5, none⟩) (.inl (.inr (.inl rfl))) v1
    rcases h.fresh k hk with h1 | h1
    · exact .inl (.inr (.inr (.inr h1.symm)))
    · exact .inr h1
  · intro k hk
    rcases hat with e | ⟨b, hb', hle⟩
    · exact h.fresh k (e ▸ hk)
    · have : b = k := by rw [hb'] at hk; exact Option.some.inj hk
      have := h.kept.1
      exact .inr (by omega)

/-- What was put out has grown: the registers stay. -/
theorem St.grown_regs {w1 : World} (h : St x w W vo0 vo s S) (hr : U32.R 38 W x.w0.heap.size (fun _ => True) vr regs) (hg : W.grownBy w1 vo.ownBlock) : U32.R 38 w1 x.w0.heap.size (fun _ => True) vr regs := by
  cases hv : vo.ownBlock with
  | none => exact Kd.R_step hr (fun k hk hlt => hg.block k hlt (by rw [hv]; simp))
  | some k => exact Kd.R_grown1 hr rfl hg (by rw [hv]; exact fun e => own_ne2 h.ou hr (by decide) k hv e.symm)
theorem St.append_regs {w1 : World} (h : St x w W vo0 vo s S) (hr : U32.R 38 W x.w0.heap.size (fun _ => True) vr regs) (hg : W.grownBy w1 vo.ownBlock) (u : Value) : U32.R 38 (w1.setCell ⟨x.g, 5, none⟩ u) x.w0.heap.size (fun _ => True) vr regs := by
  have hblk := blk_grown h.blk hg (Kd.R_ne h.ou h.blk (by decide))
  have h1 := h.grown_regs hr hg
  exact Kd.R_grown1 h1 rfl (grown_setCell w1 ⟨x.g, 5, none⟩ u) (Kd.R_ne h1 hblk (by decide))

/-- One piece of a run behind another. -/
theorem St.trans {W2 : World} {vo2 : Value} {s2 : RS} {S2 : Nat → Prop} (h : St x w W vo0 vo s S) (h2 : St x W W2 vo vo2 s2 S2) (hS : ∀ k, S2 k → S k ∨ w.heap.size ≤ k) : St x w W2 vo0 vo2 s2 S where
  blk := h2.blk
  ws := h2.ws
  ou := h2.ou
  ge := h2.ge
  below := h2.below
  kept := h.kept.then_ h2.kept (fun k hk => by
    rcases hk with h1 | h1 | h1 | h1
    · rcases hS k h1 with h3 | h3
      · exact .inl (.inl h3)
      · exact .inr h3
    · exact .inl (.inr (.inl h1))
    · exact .inl (.inr (.inr (.inl h1)))
    · rcases h.fresh k h1.symm with h3 | h3
      · exact .inl (.inr (.inr (.inr h3.symm)))
      · exact .inr h3)
  fresh := fun k hk => by
    have := h.kept.1
    rcases h2.fresh k hk with h1 | h1
    · exact h.fresh k h1
    · exact .inr (by omega)

/-- Registers that are no one's business stay. -/
theorem St.regs_kept {W2 : World} {vo2 : Value} {s2 : RS} {S2 : Nat → Prop} (h2 : St x W W2 vo vo2 s2 S2) (hv : St x w W vo0 vo s S) (hr : U32.R 38 W x.w0.heap.size (fun _ => True) vr regs) (hne : ∀ k, vr.ownBlock = some k → x.vw.ownBlock ≠ some k) (hS : ∀ k, vr.ownBlock = some k → ¬ S2 k) :
    U32.R 38 W2 x.w0.heap.size (fun _ => True) vr regs := by
  refine Kd.R_mono (Kd.R_kept (Kd.R_tight rfl hr) h2.kept (fun k hk hb => ?_)) (fun _ _ => trivial)
  rcases hb with h1 | h1 | h1 | h1
  · exact hS k hk.symm h1
  · exact Kd.R_ne hr hv.blk (by decide) (by rw [← h1]; exact hk)
  · exact hne k hk.symm h1.symm
  · exact own_ne2 hv.ou hr (by decide) k h1.symm hk.symm

/-- A new block ahead. -/
theorem St.here {o : Obj} {W2 : World} {vo2 : Value} {s2 : RS} (h : St x w w vo vo s S) (h2 : St x (w.alloc o) W2 vo vo2 s2 (fun _ => False)) : St x w W2 vo vo2 s2 S := (h.alloc o).trans h2 (fun _ hk => hk.elim)

/-- What an instruction leaves: the runner's state, and the registers. -/
def OneQ (x : Fx) (w : World) (vo0 vr : Value) (s : RS) (regs : List Int) (S : Nat → Prop) (e : Ending) (w' : World) : Prop :=
  e = .returned (.tuple #[]) ∧ ∃ vo, St x w w' vo0 vo s S ∧ U32.R 38 w' x.w0.heap.size (fun _ => True) vr regs

end Go.Proofs.Ytcfagmdopkginaa.RunW
