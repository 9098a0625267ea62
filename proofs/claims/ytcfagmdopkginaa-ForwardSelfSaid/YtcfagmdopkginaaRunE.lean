/- A function of a run, in memory: what the plain run says. -/
import Derived.Test.YtcfagmdopkginaaRunD
import Derived.Test.YtcfagmdopkginaaRunAp
import Derived.Deep.LoopGhost
import Derived.WalkKit
namespace Go.Proofs.Ytcfagmdopkginaa.RunW
open Go.RowKit Go.Proofs.YtcfagmdopkginaaW.PrintWords Go.Proofs.YtcfagmdopkginaaW.PrintLast Go.Proofs.YtcfagmdopkginaaW.PrintMore
set_option linter.unusedVariables false
variable {x : Fx} {w W : World} {vo0 vo vr : Value} {s : RS} {S : Nat → Prop} {regs : List Int}

/-- The program that a run is of. -/
structure Pg (x : Fx) (c : Cf) (words : Int) : Prop where
  vf : ∃ Af cf, x.vf = .slice Af c.fs.length cf ∧ c.fs.length ≤ cf ∧ Kd.C PF.k24 x.w0 Af c.fs.length c.fs
  inp : c.inp = bytesOf x.inp
  il : (x.inp.size : Int) ≤ 4611686018427387904
  fu : c.fuel = x.fuel
  fl : x.fuel ≤ 4611686018427387904
  ok : okP words c
  fsl : c.fs.length ≤ 1000000

theorem St.self (h : St x w W vo0 vo s S) (S2 : Nat → Prop) : St x W W vo vo s S2 := ⟨h.blk, h.ws, h.ou, h.ge, h.below, Kept.refl _ _, fun _ hk => .inl hk⟩
theorem St.other {W2 : World} {vo2 : Value} {s2 : RS} {S2 : Nat → Prop} (h : St x w W vo0 vo s S) (h2 : St x W W2 vo vo2 s2 S2) {g t : Nat} {cs : Array Value} (hb : W.heap[g]? = some (.cells cs t (0, 0))) (ht : t ≠ 68 ∧ t ≠ 38 ∧ t ≠ 5) (hS : ¬ S2 g) : W2.heap[g]? = some (.cells cs t (0, 0)) := by
  refine blk_kept hb h2.kept (fun hk => ?_)
  rcases hk with h1 | h1 | h1 | h1
  · exact hS h1
  · have h3 := h.blk
    rw [← h1, hb] at h3
    injection h3 with h3
    injection h3 with _ h3
    exact ht.1 h3
  · exact Kd.R_ne h.ws hb (fun e => ht.2.1 e.symm) h1
  · exact Kd.R_ne h.ou hb (fun e => ht.2.2 e.symm) h1
theorem below_of_grown {w1 : World} (hg : W.grownBy w1 none) : Below W.heap.size W w1 := ⟨hg.os, hg.tape, hg.output, hg.size, fun i hi => hg.block i hi (by simp)⟩

/-- What a run of a function leaves is a state. -/
theorem exec_fn_ok {c : Cf} {words : Int} (hP : Pg x c words) {k : Nat} {i : Int} {b : Bool} {s' : RS} {r' : List Int} (hex : exec c k (.fn i) s = some (b, s', r')) (h0 : 0 ≤ i) (h1 : i < c.fs.length) (hs : okS words s) (hf : s.fin = 0) : okS words s' := by
  obtain ⟨k2, s2, r2, h2, ho, _⟩ := (tot_all apply_ok hP.ok (c.fuel - s.st).toNat).fn i h0 h1 s hs hf (Nat.le_refl _)
  have e1 := exec_at c (Nat.le_max_left k k2) hex
  have e2 := exec_at c (Nat.le_max_right k k2) h2
  rw [e1] at e2
  have e3 := Option.some.inj e2
  injection e3 with _ e3
  injection e3 with e3 _
  rw [e3]
  exact ho
theorem oneM_ok {c : Cf} {words regs number : Int} {t : PF.S40} (hP : Pg x c words) (ht : okI regs number words t) (hne : t.f0 ≠ 10) (hs : okS words s) {l : List Int} (hl : okR regs l) {s' : RS} {l' : List Int} (hm : oneM c.inp t s l = some (s', l')) : okS words s' ∧ okR regs l' := by
  obtain ⟨s2, l2, h2, ho, hr, _⟩ := oneM_total apply_ok ht hne hP.ok.inp hs hl
  rw [hm] at h2
  have e := Option.some.inj h2
  injection e with e1 e2
  rw [e1, e2]
  exact ⟨ho, hr⟩

theorem drop_at {l : List PF.S40} {j : Int} (h0 : 0 ≤ j) (h1 : j < l.length) : l.drop j.toNat = PF.rd_T40 l j :: l.drop (j + 1).toNat := by
  have hlt : j.toNat < l.length := by omega
  rw [List.drop_eq_getElem_cons hlt, show (j + 1).toNat = j.toNat + 1 by omega]
  congr 1
  unfold PF.rd_T40
  rw [List.getD_eq_getElem?_getD, List.getElem?_eq_getElem hlt]
  rfl
theorem rd40_in {l : List PF.S40} {j : Int} (h0 : 0 ≤ j) (h1 : j < l.length) : PF.rd_T40 l j ∈ l := by
  have hlt : j.toNat < l.length := by omega
  unfold PF.rd_T40
  rw [List.getD_eq_getElem?_getD, List.getElem?_eq_getElem hlt]
  exact List.getElem_mem hlt

/-- What a function leaves. -/
def FunQ (x : Fx) (w : World) (vo : Value) (s' : RS) (e : Ending) (w' : World) : Prop := e = .returned (.tuple #[]) ∧ ∃ vo', St x w w' vo vo' s' (fun _ => False)
def FunSaid (x : Fx) (c : Cf) (words : Int) (k : Nat) : Prop := ∀ (i : Int) (w : World) (vo : Value) (s : RS) (b : Bool) (s' : RS) (r' : List Int), exec c k (.fn i) s = some (b, s', r') → 0 ≤ i → i < c.fs.length → okS words s → s.fin = 0 → St x w w vo vo s (fun _ => False) →
  Calls Try.prog 30 #[.pointer (some ⟨x.g, 0, none⟩), .int .i64 i] w (FunQ x w vo s')

set_option maxHeartbeats 8000000 in
set_option maxRecDepth 100000 in
theorem fun_walk {c : Cf} {words : Int} (hP : Pg x c words) (k : Nat) (ih : ∀ m, m < k → FunSaid x c words m) : FunSaid x c words k := by
  intro i w vo s b s' r' hex h0 h1 hs hfin h
  cases k with
  | zero => exact absurd hex (by simp [exec])
  | succ k =>
    rw [exec] at hex
    obtain ⟨Af, cf, hvf, hcf, hC⟩ := hP.vf
    have hF := hP.ok.f i.toNat (by omega)
    rw [Int.toNat_of_nonneg h0] at hF
    have hn0 := hF.n0
    obtain ⟨ad, Ab, cb, rfl, hx0, hx1, hlb, hCb⟩ := PF.at_T24 hC i h0 (by omega)
    replace hx0 := pw_cell_below h.below hx0
    replace hx1 := pw_cell_below h.below hx1
    have hfn : PF.rd_T24 c.fs i = fnAt c.fs i := rfl
    rw [hfn] at hx0 hx1 hlb hCb
    have H := Aside0.mk h
    have HEX := Aside0.mk hex
    have HF := Aside0.mk hF
    have HCB := Aside0.mk hCb
    have HLB := Aside0.mk hlb
    have Zr := blk9 h.blk
    rw [hvf] at Zr
    have hgl : x.g < w.heap.size := blk_lt h.blk
    have hR0 := hF.r0
    have hR1 := hF.r1
    have hfl : c.fs.length ≤ 1000000 := hP.fsl
    have HSF := Aside0.mk (And.intro hs hfin)
    clear h hex hF hfn hC hCb hlb hvf hs hfin hn0
    generalize fnAt c.fs i = f at *
    obtain ⟨R, bs⟩ := f
    dsimp only at *
    go_enter Try.func30, Try.ntmps30
    have HBW := Aside0.mk H.out.below
    go_wp2_with ((with_reducible refine gate_dst (N := 19) rfl ?_); refine Kd.R_make U32 (w0 := x.w0) x.w0.heap.size 38 rfl (N := 19) rfl 65 _ _ rfl R rfl rfl (by kernel_rfl) (.int .u32 0) 4 (by kernel_rfl) rfl (by decide) (by decide) 0 (ok := fun _ => True) (okp := fun _ => True) rfl (fun _ hk => hk) trivial hR0 (by omega) (HBW.out.alloc HBW.out.size _) (below_size (HBW.out.alloc HBW.out.size _)) ?_; intro v1 w1 hr1 hb1 hg1 hnew)
    have hbf : w1.heap[w.heap.size]? = some (.cells #[.int .i64 R, .slice Ab bs.length cb] 24 (0, 0)) := blk_grown (blk_new w (.cells #[.int .i64 R, .slice Ab bs.length cb] 24)) hg1 (by simp)
    have H1 : St x w w1 vo vo s (fun _ => False) := (H.out.alloc (.cells #[.int .i64 R, .slice Ab bs.length cb] 24)).of_below (below_of_grown hg1)
    have hnew2 : ∀ q, v1.ownBlock = some q → w.heap.size + 1 ≤ q := fun q hq => by
      obtain ⟨b0, e0, l0⟩ := hnew
      rw [hq] at e0
      have : q = b0 := Option.some.inj e0
      simp at l0
      omega
    obtain ⟨bf, hbfe⟩ : ∃ bf : Nat, bf = w.heap.size := ⟨_, rfl⟩
    rw [← hbfe] at hbf hnew2 ⊢
    have HN := Aside0.mk (And.intro hbfe hnew2)
    have HVW : Aside0 (∀ z, v1.ownBlock = some z → x.vw.ownBlock ≠ some z) := ⟨fun z hz e => by have := hnew2 z hz; have := Kd.R_lt H.out.ws z e; omega⟩
    clear hbfe hnew hnew2 hg1 hb1 Zr hgl hx0 hx1
    have HF2 := HF.out
    have hle : s.st ≤ s.st := Int.le_refl _
    have hsl : (bs.length : Int) ≤ 1000000 := by have := HF2.n; dsimp only at this; omega
    obtain ⟨hs, hfin⟩ := HSF.out
    have A1 := Aside0.mk H1
    have A2 := Aside0.mk hr1
    have A3 := Aside0.mk hbf
    have A4 := Aside0.mk hs
    have A5 := Aside0.mk hfin
    have A6 := Aside0.mk (okR_zeros (n := R) hR0)
    have A7 : Aside0 (Plain.inR bs.length 0) := ⟨by have := HF2.n0; exact ⟨by omega, by dsimp only at this; omega⟩⟩
    clear H1 hr1 hbf hs hfin HF2
    go_loopg [6] k (fun kq v6 wr => ∃ (at_ : Int) (s1 : RS) (vo1 : Value) (regs1 : List Int), v6 = .int .i64 at_ ∧ Aside0 (exec c kq (.blk bs at_ regs1) s1 = some (b, s', r')) ∧ Aside0 (kq ≤ k) ∧ Aside0 (Plain.inR bs.length at_) ∧ Aside0 (St x w wr vo vo1 s1 (fun _ => False)) ∧ Aside0 (U32.R 38 wr x.w0.heap.size (fun _ => True) v1 regs1) ∧ Aside0 (okS words s1) ∧ Aside0 (okR R regs1) ∧ Aside0 (s1.fin = 0) ∧ Aside0 (wr.heap[bf]? = some (.cells #[.int .i64 R, .slice Ab bs.length cb] 24 (0, 0))))
    case atStart => exact ⟨0, s, vo, zeros R, rfl, HEX, ⟨Nat.le_refl _⟩, A7, A1, A2, A4, A6, A5, A3⟩
    case round =>
      clear HEX A1 A2 A3 A4 A5 A6 A7
      obtain ⟨at_, s1, vo1, regs1, rfl, HEX, HKQ, HAT, HS, HR, HOS, HOR, HFI, HBF⟩ := hrel
      cases gk with
      | zero => exact absurd HEX.out (by simp [exec])
      | succ m =>
        have hex := HEX.out
        rw [exec] at hex
        obtain ⟨⟨b2, s3, r3⟩, hin, hrest⟩ := Option.bind_eq_some_iff.1 hex
        have HIN := Aside0.mk hin
        have HREST := Aside0.mk hrest
        obtain ⟨hat0, hat1⟩ := HAT.out
        obtain ⟨ad2, A0, c0, rfl, hy0, hy1, hy2, hy3, hy4, hl0, hC0⟩ := PF.at_T37 HCB.out at_ hat0 hat1
        replace hy0 := pw_cell_below HS.out.below hy0
        replace hy1 := pw_cell_below HS.out.below hy1
        replace hy2 := pw_cell_below HS.out.below hy2
        replace hy3 := pw_cell_below HS.out.below hy3
        replace hy4 := pw_cell_below HS.out.below hy4
        have HK := Aside0.mk ((HF.out).b _ (rd37_in HAT.out))
        dsimp only at HK
        have HC0 := Aside0.mk hC0
        have HL0 := Aside0.mk hl0
        clear hex hin hrest hC0 hl0
        generalize PF.rd_T37 bs at_ = kb at *
        have Zr := blk9 HS.out.blk
        have Zb := blk2 HBF.out
        have hgl : x.g < wr.heap.size := blk_lt HS.out.blk
        have hbl : bf < wr.heap.size := blk_lt HBF.out
        have hfi : (s1.fin == 0) = true := beq_iff_eq.2 HFI.out
        go_wp2
        have hbk := blk_new wr (.cells #[.slice A0 kb.f0.length c0, .int .i64 kb.f1, .int .i64 kb.f2, .int .i64 kb.f3, .int .i64 kb.f4] 37)
        have B1 := Aside0.mk (HS.out.alloc (.cells #[.slice A0 kb.f0.length c0, .int .i64 kb.f1, .int .i64 kb.f2, .int .i64 kb.f3, .int .i64 kb.f4] 37))
        have B2 := Aside0.mk (Kd.R_alloc HR.out (.cells #[.slice A0 kb.f0.length c0, .int .i64 kb.f1, .int .i64 kb.f2, .int .i64 kb.f3, .int .i64 kb.f4] 37))
        have B3 := Aside0.mk (blk_alloc HBF.out (.cells #[.slice A0 kb.f0.length c0, .int .i64 kb.f1, .int .i64 kb.f2, .int .i64 kb.f3, .int .i64 kb.f4] 37))
        have hbkl : w.heap.size ≤ wr.heap.size := HS.out.kept.1
        obtain ⟨bk, hbke⟩ : ∃ bk : Nat, bk = wr.heap.size := ⟨_, rfl⟩
        rw [← hbke] at hbk hbkl ⊢
        clear hgl hbl hbke
        generalize wr.alloc (.cells #[.slice A0 kb.f0.length c0, .int .i64 kb.f1, .int .i64 kb.f2, .int .i64 kb.f3, .int .i64 kb.f4] 37) = wq at *
        have B4 := Aside0.mk hbk
        clear hbk Zr Zb hy0 hy1 hy2 hy3 hy4 HS HR HBF HEX hfi
        have HBKL := Aside0.mk hbkl
        clear hbkl
        go_loopg [8] m (fun kq v8 wi => ∃ (j : Int) (s2 : RS) (vo2 : Value) (regs2 : List Int), v8 = .int .i64 j ∧ Aside0 (0 ≤ j ∧ j ≤ kb.f0.length) ∧ Aside0 (exec c kq (.ins (kb.f0.drop j.toNat) regs2) s2 = some (b2, s3, r3)) ∧ Aside0 (kq ≤ m) ∧ Aside0 (St x w wi vo vo2 s2 (fun _ => False)) ∧ Aside0 (U32.R 38 wi x.w0.heap.size (fun _ => True) v1 regs2) ∧ Aside0 (okS words s2) ∧ Aside0 (okR R regs2) ∧ Aside0 (s2.fin = 0) ∧ Aside0 (wi.heap[bf]? = some (.cells #[.int .i64 R, .slice (some ad2) bs.length cb] 24 (0, 0))) ∧ Aside0 (wi.heap[bk]? = some (.cells #[.slice A0 kb.f0.length c0, .int .i64 kb.f1, .int .i64 kb.f2, .int .i64 kb.f3, .int .i64 kb.f4] 37 (0, 0))))
        case atStart => exact ⟨0, s1, vo1, regs1, rfl, ⟨Int.le_refl _, by omega⟩, HIN, ⟨Nat.le_refl _⟩, B1, B2, HOS, HOR, HFI, B3, B4⟩
        case round =>
          clear HIN B1 B2 HOS HOR HFI B3 B4
          obtain ⟨j, s2, vo2, regs2, rfl, HJ, HIN, HKM, HS, HR, HOS, HOR, HFI, HBF, HBK⟩ := hrel
          cases gk with
          | zero => exact absurd HIN.out (by simp [exec])
          | succ q =>
            obtain ⟨hj0, hj1⟩ := HJ.out
            have hst0 := HOS.out.s0
            have hkl : kb.f0.length ≤ 1000000 := HK.out.n
            have Zr := blk9 HS.out.blk
            have Zb := blk2 HBF.out
            have Zk := blk5 HBK.out
            have hgl : x.g < wr.heap.size := blk_lt HS.out.blk
            by_cases hj : j < (kb.f0.length : Int)
            · have hin := HIN.out
              rw [drop_at hj0 hj] at hin
              have ht := HK.out.i _ (rd40_in hj0 hj)
              obtain ⟨ad3, rfl, hz0, hz1, hz2, hz3, hz4, hz5, hz6, hz7⟩ := PF.at_T40 HC0.out j hj0 hj
              have Hz := Aside0.mk (And.intro hz0 (And.intro hz1 (And.intro hz2 (And.intro hz3 (And.intro hz4 (And.intro hz5 (And.intro hz6 hz7)))))))
              clear hz0 hz1 hz2 hz3 hz4 hz5 hz6 hz7
              generalize PF.rd_T40 kb.f0 j = tt at *
              rw [exec] at hin
              by_cases hfu : c.fuel ≤ s2.st
              · rw [if_pos hfu] at hin
                have hin' := Option.some.inj hin
                injection hin' with e1 e2
                injection e2 with e2 e3
                subst e1 e2 e3
                have hrest := HREST.out
                (try dsimp only at hrest)
                rw [if_pos rfl] at hrest
                have hrest' := Option.some.inj hrest
                injection hrest' with e1 e2
                injection e2 with e2 e3
                subst e1 e2 e3
                rw [hP.fu] at hfu
                have HFU := Aside0.mk hfu
                have HT := Aside0.mk ht
                clear hin hrest hfu ht
                go_wp2_with (go_at_call 36; refine (step_out (HS.out.self (fun _ => False)) HFU.out).mono ?_; rintro e w2 ⟨rfl, hs2⟩)
                go_end0
                exact ⟨rfl, _, HS.out.trans hs2 (fun _ h => .inl h)⟩
              · rw [if_neg hfu] at hin
                obtain ⟨⟨s4, r4⟩, hone, hrs⟩ := Option.bind_eq_some_iff.1 hin
                dsimp only at hrs
                have hw1 := hP.ok.w1
                have hst1 := okS_tick HOS.out
                have hfi1 : (tick s2).fin = 0 := HFI.out
                have hq1 : q + 1 ≤ m := HKM.out
                have hq2 : m + 1 ≤ k := HKQ.out
                have hv1 : ∀ z, v1.ownBlock = some z → x.vw.ownBlock ≠ some z ∧ w.heap.size + 1 ≤ z := fun z hz => by
                  refine ⟨fun e => ?_, by have := HN.out.2 z hz; have := HN.out.1; omega⟩
                  exact HVW.out z hz e
                -- the instruction, and what it leaves
                have hcall : (∀ (W : World), St x W W vo2 vo2 (tick s2) (fun z => some z = v1.ownBlock) → U32.R 38 W x.w0.heap.size (fun _ => True) v1 regs2 →
                    Calls Try.prog 37 #[.pointer (some ⟨x.g, 0, none⟩), tacV tt.f0 tt.f1 tt.f2 tt.f3 tt.f4 tt.f5 tt.f6 tt.f7, v1] W (OneQ x W vo2 v1 s4 r4 (fun z => some z = v1.ownBlock))) ∧ okS words s4 ∧ okR R r4 := by
                  by_cases h10 : tt.f0 = 10
                  · rw [if_pos h10] at hone
                    obtain ⟨⟨bb, s5, r5⟩, hcl, hone⟩ := Option.bind_eq_some_iff.1 hone
                    dsimp only at hone
                    have hone' := Option.some.inj hone
                    injection hone' with e1 e2
                    subst e1 e2
                    have hca := ht.ca h10
                    refine ⟨fun W hW hRW => ?_, exec_fn_ok hP hcl hca.1 (by omega) hst1 hfi1, HOR.out⟩
                    rw [h10]
                    exact one_call hW hRW (fun z hz => (hv1 z hz).1) (ih q (by omega) tt.f5 _ vo2 (tick s2) bb s5 r5 hcl hca.1 (by omega) hst1 hfi1 ((hW.alloc _).self _))
                  · rw [if_neg h10] at hone
                    obtain ⟨ho4, hr4⟩ := oneM_ok hP ht h10 hst1 HOR.out hone
                    rw [hP.inp] at hone
                    exact ⟨fun W hW hRW => one_walk hW hRW (fun z hz => (hv1 z hz).1) (fun z hz => hz.symm) ht h10 hst1 HOR.out hw1 hP.il hone, ho4, hr4⟩
                obtain ⟨hcall, ho4, hr4⟩ := hcall
                rw [hP.fu] at hfu
                have HFU := Aside0.mk hfu
                have HT := Aside0.mk ht
                have HCALL := Aside0.mk hcall
                have HRS := Aside0.mk hrs
                have HO4 := Aside0.mk ho4
                have HR4 := Aside0.mk hr4
                have HV1 := Aside0.mk hv1
                clear hin hone hrs hfu ht hcall ho4 hr4 hst1 hfi1 hv1 hw1
                go_wp2_with fail
                refine (step_ok (HS.out.self (fun _ => False)) hst0 (by have := HFU.out; omega) hP.fl).mono ?_
                rintro e w2 ⟨rfl, hs2, hreg2⟩
                have D1 := Aside0.mk hs2
                have D2 := Aside0.mk (hreg2 _ _ HR.out)
                have D3 := Aside0.mk (HS.out.other hs2 HBF.out (by decide) (fun h => h))
                have D4 := Aside0.mk (HS.out.other hs2 HBK.out (by decide) (fun h => h))
                clear hs2 hreg2 Zr Zb Zk hgl
                have Zr := blk9 D1.out.blk
                have Zb := blk2 D3.out
                have Zk := blk5 D4.out
                obtain ⟨hz0, hz1, hz2, hz3, hz4, hz5, hz6, hz7⟩ := Hz.out
                replace hz0 := pw_cell_below D1.out.below hz0
                replace hz1 := pw_cell_below D1.out.below hz1
                replace hz2 := pw_cell_below D1.out.below hz2
                replace hz3 := pw_cell_below D1.out.below hz3
                replace hz4 := pw_cell_below D1.out.below hz4
                replace hz5 := pw_cell_below D1.out.below hz5
                replace hz6 := pw_cell_below D1.out.below hz6
                replace hz7 := pw_cell_below D1.out.below hz7
                go_wp2_with fail
                refine (HCALL.out w2 (D1.out.self _) D2.out).mono ?_
                rintro e w3 ⟨rfl, vo4, hs4, hreg4⟩
                have D5 := Aside0.mk ((HS.out.trans D1.out (fun _ h => .inl h)).trans hs4 (fun z hz => .inr (by have := (HV1.out z hz.symm).2; omega)))
                have D6 := Aside0.mk hreg4
                have D7 := Aside0.mk (D1.out.other hs4 D3.out (by decide) (fun h => by have := HN.out.2 bf h.symm; omega))
                have D8 := Aside0.mk (D1.out.other hs4 D4.out (by decide) (fun h => Kd.R_ne D2.out D4.out (by decide) h))
                clear hs4 hreg4 Zr Zb Zk hz0 hz1 hz2 hz3 hz4 hz5 hz6 hz7
                have Zr := blk9 D5.out.blk
                have Zb := blk2 D7.out
                have Zk := blk5 D8.out
                by_cases hf4 : s4.fin = 0
                · have hf4b : (s4.fin != 0) = false := by simp [hf4]
                  have hrs := HRS.out
                  rw [if_pos hf4] at hrs
                  have D9 := Aside0.mk hrs
                  have D10 := Aside0.mk hf4
                  clear hrs hf4
                  go_wp2
                  go_roundg q
                  case measure => omega
                  case rel => exact ⟨j + 1, s4, vo4, r4, by go_num, ⟨by omega, by omega⟩, D9, ⟨by omega⟩, D5, D6, HO4, HR4, D10, D7, D8⟩
                · have hf4b : (s4.fin != 0) = true := by simp [hf4]
                  have hrs := HRS.out
                  rw [if_neg hf4] at hrs
                  have hin' := Option.some.inj hrs
                  injection hin' with e1 e2
                  injection e2 with e2 e3
                  subst e1 e2 e3
                  have hrest := HREST.out
                  (try dsimp only at hrest)
                  rw [if_pos rfl] at hrest
                  have hrest' := Option.some.inj hrest
                  injection hrest' with e1 e2
                  injection e2 with e2 e3
                  subst e1 e2 e3
                  clear hrs hrest hf4
                  go_wp2
                  go_end0
                  exact ⟨rfl, _, D5.out⟩
            · -- the block's instructions are done
              have hin := HIN.out
              rw [List.drop_eq_nil_of_le (by omega), exec] at hin
              have hin' := Option.some.inj hin
              injection hin' with e1 e2
              injection e2 with e2 e3
              subst e1 e2 e3
              have hrest := HREST.out
              (try dsimp only at hrest)
              rw [if_neg (by simp)] at hrest
              have hjf : decide (j < (kb.f0.length : Int)) = false := decide_eq_false hj
              by_cases hfu : c.fuel ≤ s2.st
              · rw [if_pos hfu] at hrest
                have hrest' := Option.some.inj hrest
                injection hrest' with e1 e2
                injection e2 with e2 e3
                subst e1 e2 e3
                rw [hP.fu] at hfu
                have HFU := Aside0.mk hfu
                clear hin hrest hfu hj
                go_wp2_with fail
                refine (step_out (HS.out.self (fun _ => False)) HFU.out).mono ?_
                rintro e w2 ⟨rfl, hs2⟩
                go_wp2
                go_end0
                exact ⟨rfl, _, HS.out.trans hs2 (fun _ h => .inl h)⟩
              · rw [if_neg hfu] at hrest
                rw [hP.fu] at hfu
                have HFU := Aside0.mk hfu
                clear hin hfu hj
                go_wp2_with fail
                refine (step_ok (HS.out.self (fun _ => False)) hst0 (by have := HFU.out; omega) hP.fl).mono ?_
                rintro e w2 ⟨rfl, hs2, hreg2⟩
                have D1 := Aside0.mk (HS.out.trans hs2 (fun _ h => .inl h))
                have D2 := Aside0.mk (hreg2 _ _ HR.out)
                have D3 := Aside0.mk (HS.out.other hs2 HBF.out (by decide) (fun h => h))
                have D4 := Aside0.mk (HS.out.other hs2 HBK.out (by decide) (fun h => h))
                clear hs2 hreg2 Zr Zb Zk hgl
                have Zk := blk5 D4.out
                by_cases h3 : kb.f1 = 3
                · rw [if_pos h3] at hrest
                  have hrest' := Option.some.inj hrest
                  injection hrest' with e1 e2
                  injection e2 with e2 e3
                  subst e1 e2 e3
                  have h3b : (kb.f1 == 3) = true := beq_iff_eq.2 h3
                  clear hrest h3
                  go_wp2
                  go_end0
                  exact ⟨rfl, _, D1.out⟩
                · rw [if_neg h3] at hrest
                  have h3b : (kb.f1 == 3) = false := beq_eq_false_iff_ne.2 h3
                  have he := HK.out.e
                  have hv := HK.out.v
                  have hta := HK.out.ta
                  have hel := HK.out.el
                  have E1 := Aside0.mk (okS_tick HOS.out)
                  have E2 : Aside0 ((tick s2).fin = 0) := HFI
                  have hm1 : m + 1 ≤ k := HKQ.out
                  by_cases h2 : kb.f1 = 2
                  · have h2b : (kb.f1 == 2) = true := beq_iff_eq.2 h2
                    have hvv := hv h2
                    have hto := hta (.inr h2)
                    have hell := hel h2
                    obtain ⟨hv0, hv1⟩ := hvv
                    have hl2 := HOR.out.1
                    obtain ⟨gr, cr, rfl, hg0, hg1, cl, HG⟩ := Kd.R_form D2.out (by omega)
                    obtain ⟨hx, hf⟩ := Kd.R_celln 0 D2.out kb.f2 hv0 (by omega)
                    clear HG
                    by_cases hz : rdOf 0 regs2 kb.f2 = 0
                    · have hzb : (rdOf 0 regs2 kb.f2 == 0) = true := beq_iff_eq.2 hz
                      have hnx : nextB kb regs2 = kb.f4 := by unfold nextB; rw [if_pos ⟨h2, hz⟩]
                      rw [hnx] at hrest
                      have E3 := Aside0.mk hrest
                      have E4 := Aside0.mk hell
                      clear hrest hnx hz h2 h3 hv hta hel hto hell he
                      go_wp2
                      go_roundg m
                      case measure => omega
                      case rel => exact ⟨kb.f4, tick s2, vo2, regs2, rfl, E3, ⟨by omega⟩, E4, D1, D2, E1, HOR, E2, D3⟩
                    · have hzb : (rdOf 0 regs2 kb.f2 == 0) = false := beq_eq_false_iff_ne.2 hz
                      have hnx : nextB kb regs2 = kb.f3 := by unfold nextB; rw [if_neg (fun h => hz h.2)]
                      rw [hnx] at hrest
                      have E3 := Aside0.mk hrest
                      have E4 := Aside0.mk hto
                      clear hrest hnx hz h2 h3 hv hta hel hto hell he
                      go_wp2
                      go_roundg m
                      case measure => omega
                      case rel => exact ⟨kb.f3, tick s2, vo2, regs2, rfl, E3, ⟨by omega⟩, E4, D1, D2, E1, HOR, E2, D3⟩
                  · have h2b : (kb.f1 == 2) = false := beq_eq_false_iff_ne.2 h2
                    have hto := hta (by omega)
                    have hnx : nextB kb regs2 = kb.f3 := by unfold nextB; rw [if_neg (fun h => h2 h.1)]
                    rw [hnx] at hrest
                    have E3 := Aside0.mk hrest
                    have E4 := Aside0.mk hto
                    clear hrest hnx h2 h3 hv hta hel hto he
                    go_wp2
                    go_roundg m
                    case measure => omega
                    case rel => exact ⟨kb.f3, tick s2, vo2, regs2, rfl, E3, ⟨by omega⟩, E4, D1, D2, E1, HOR, E2, D3⟩

theorem fun_all {c : Cf} {words : Int} (hP : Pg x c words) : ∀ k, FunSaid x c words k := fun k => by
  induction k using Nat.strongRecOn with
  | _ k ih => exact fun_walk hP k ih
end Go.Proofs.Ytcfagmdopkginaa.RunW
