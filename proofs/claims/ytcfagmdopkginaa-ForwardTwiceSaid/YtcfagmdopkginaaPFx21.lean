-- written by a program of this session (print.sh turned)
import Derived.Test.YtcfagmdopkginaaPFx0
import Derived.Test.YtcfagmdopkginaaPFx20
namespace Go.Proofs.Ytcfagmdopkginaa.PF
open Go.RowKit Go.Proofs.YtcfagmdopkginaaW.PrintWords Go.Proofs.YtcfagmdopkginaaW.PrintLast Go.Proofs.YtcfagmdopkginaaW.PrintMore
attribute [local go_sem] max2_int min2_int max_two min_two max_three min_three max_four min_four   -- for this text's walks alone
set_option linter.unusedVariables false
set_option linter.unusedSimpArgs false

/-! ### seedcornref24_SameFunc: function 16 -/
mutual
def seedcornref24_SameFunc.j0 : Nat → Bool → Int → List (S37) → Int → List (S37) → Option (Bool)
 | 0, _, _, _, _, _ => none
 | k + 1, x19, x282000, x282001, x283000, x283001 => if x19 = true then (some false) else (seedcornref24_SameFunc.l0 k 0 x282000 x282001 x283000 x283001)
def seedcornref24_SameFunc.l0 : Nat → Int → Int → List (S37) → Int → List (S37) → Option (Bool)
 | 0, _, _, _, _, _ => none
 | k + 1, x5, x282000, x282001, x283000, x283001 => if x5 < (x282001.length : Int) then (if 0 ≤ x5 then (if x5 < (x283001.length : Int) then ((seedcornref24_SameBlock.f k ((rd_T37 x282001 x5).f0) ((rd_T37 x282001 x5).f1) ((rd_T37 x282001 x5).f2) ((rd_T37 x282001 x5).f3) ((rd_T37 x282001 x5).f4) ((rd_T37 x283001 x5).f0) ((rd_T37 x283001 x5).f1) ((rd_T37 x283001 x5).f2) ((rd_T37 x283001 x5).f3) ((rd_T37 x283001 x5).f4)).bind fun t285 => (if t285 = true then (seedcornref24_SameFunc.l0 k (wrap64 (x5 + 1)) x282000 x282001 x283000 x283001) else (some false))) else (none)) else (none)) else (some true)
end
def seedcornref24_SameFunc.f (k : Nat) (a0_0 : Int) (l0_1 : List (S37)) (a1_0 : Int) (l1_1 : List (S37)) : Option (Bool) := if a0_0 = a1_0 then (seedcornref24_SameFunc.j0 k ((l0_1.length : Int) != (l1_1.length : Int)) a0_0 l0_1 a1_0 l1_1) else (seedcornref24_SameFunc.j0 k true a0_0 l0_1 a1_0 l1_1)
def seedcornref24_SameFunc.T6 : Bool × List (List Nat × List Nat) := (true, [([], []), ([0], [0]), ([], []), ([1, 2], [1, 2]), ([3], [3]), ([], []), ([5], [5]), ([], []), ([6, 7], [6, 7]), ([8], [8]), ([4, 9], [4, 9]), ([10], [10])])
def seedcornref24_SameFunc.B6 : List Nat := [0, 1, 0, 7, 15, 0, 32, 0, 224, 480, 1023, 2047]
theorem seedcornref24_SameFunc.tab6 : rtab .any (opsOf Try.f16 6) = seedcornref24_SameFunc.T6 := by kernel_rfl
theorem seedcornref24_SameFunc.bits6 : waitsOk seedcornref24_SameFunc.T6.2 seedcornref24_SameFunc.B6 = true := by kernel_rfl
set_option maxHeartbeats 40000000 in
set_option maxRecDepth 100000 in
theorem seedcornref24_SameFunc.calls (k : Nat) (a0_0 : Int) (A0_1 : Option Addr) (c0_1 : Nat) (l0_1 : List (S37)) (a1_0 : Int) (A1_1 : Option Addr) (c1_1 : Nat) (l1_1 : List (S37)) (r : Bool) (w : World) (hr0_1 : Kd.C k37 w A0_1 l0_1.length l0_1) (hc0_1 : l0_1.length ≤ c0_1) (hr1_1 : Kd.C k37 w A1_1 l1_1.length l1_1) (hc1_1 : l1_1.length ≤ c1_1) (h : seedcornref24_SameFunc.f k a0_0 l0_1 a1_0 l1_1 = some r) :
 Calls Try.prog 16 #[.agg #[.int .i64 a0_0, .slice A0_1 l0_1.length c0_1], .agg #[.int .i64 a1_0, .slice A1_1 l1_1.length c1_1]] w fun e w' => e = .returned (.bool r) ∧ Below w.heap.size w w' := by
 have hu24 := Try.underlying24; have hu37 := Try.underlying37; have HR0_1 := Aside0.mk hr0_1; have HC0_1 := Aside0.mk hc0_1; clear hr0_1 hc0_1; have HR1_1 := Aside0.mk hr1_1; have HC1_1 := Aside0.mk hc1_1; clear hr1_1 hc1_1; have HB := Aside0.mk (Below.refl w.heap.size w); have H : (if a0_0 = a1_0 then (seedcornref24_SameFunc.j0 k ((l0_1.length : Int) != (l1_1.length : Int)) a0_0 l0_1 a1_0 l1_1) else (seedcornref24_SameFunc.j0 k true a0_0 l0_1 a1_0 l1_1)) = some r := h; clear h; have HC3 := Aside0.mk H; clear H
 go_enter Try.func16, Try.ntmps16
 go_upto_region 1 with (first | ((with_reducible refine gate_dst (N := 2) rfl ?_); (try (refine gate_guard (by rfl) ?_; dsimp only)); refine box_event ?hg (N := 2) ?hd (cs := #[.int .i64 a0_0, .slice A0_1 l0_1.length c0_1]) (t := 24) ?hr ?_; (case hd => rfl); (case hg => rfl); (case hr => first | (go_simp; done) | (go_simp; rfl)); intro gb281 hg w4 hbox hb; have n0_ := Aside0.mk (below_step (by repeat (first | (with_reducible first | exact HB.out | apply b1_ | apply b2_ | apply b3_) | exact HB.out)) hb); have n1_ := Aside0.mk (hbox); have n2_ := Aside0.mk ((by rw [hg]; exact (below_size (by repeat (first | (with_reducible first | exact HB.out | apply b1_ | apply b2_ | apply b3_) | exact HB.out))) : w.heap.size ≤ gb281)); have n3_ := Aside0.mk ((by rw [hg]; exact (below_size (by repeat (first | (with_reducible first | exact HB.out | apply b1_ | apply b2_ | apply b3_) | exact HB.out))) : w.heap.size ≤ gb281)); clear HB; have HB := n0_; have BK281 := n1_; have GW281 := n2_; have GE281 := n3_; clear n0_ n1_ n2_ n3_; clear hb hbox hg) | ((with_reducible refine gate_dst (N := 3) rfl ?_); (try (refine gate_guard (by rfl) ?_; dsimp only)); refine box_event ?hg (N := 3) ?hd (cs := #[.int .i64 a1_0, .slice A1_1 l1_1.length c1_1]) (t := 24) ?hr ?_; (case hd => rfl); (case hg => rfl); (case hr => first | (go_simp; done) | (go_simp; rfl)); intro gb282 hg w5 hbox hb; have n0_ := Aside0.mk (blk_below (g := gb281) (o := .cells #[.int .i64 a0_0, .slice A0_1 l0_1.length c0_1] 24 (0, 0)) (by (with_reducible repeat (first | apply d1_ | apply d2_ | apply d3_)); exact BK281.out) hb); have n1_ := Aside0.mk (below_step (by repeat (first | (with_reducible first | exact HB.out | apply b1_ | apply b2_ | apply b3_ | refine b4_ ?_ GE281.out) | exact HB.out)) hb); have n2_ := Aside0.mk (hbox); have n3_ := Aside0.mk ((by rw [hg]; exact (below_size (by repeat (first | (with_reducible first | exact HB.out | apply b1_ | apply b2_ | apply b3_ | refine b4_ ?_ GE281.out) | exact HB.out))) : w.heap.size ≤ gb282)); have n4_ := Aside0.mk ((by rw [hg]; exact (below_size (by repeat (first | (with_reducible first | exact HB.out | apply b1_ | apply b2_ | apply b3_ | refine b4_ ?_ GE281.out) | exact HB.out))) : w.heap.size ≤ gb282)); have n5_ := Aside0.mk ((by rw [hg]; exact Nat.ne_of_lt (blk_lt (g := gb281) (o := .cells #[.int .i64 a0_0, .slice A0_1 l0_1.length c0_1] 24 (0, 0)) (by (with_reducible repeat (first | apply d1_ | apply d2_ | apply d3_)); exact BK281.out)) : gb281 ≠ gb282)); have n6_ := Aside0.mk ((by rw [hg]; exact Nat.ne_of_gt (blk_lt (g := gb281) (o := .cells #[.int .i64 a0_0, .slice A0_1 l0_1.length c0_1] 24 (0, 0)) (by (with_reducible repeat (first | apply d1_ | apply d2_ | apply d3_)); exact BK281.out)) : gb282 ≠ gb281)); clear BK281; clear HB; have BK281 := n0_; have HB := n1_; have BK282 := n2_; have GW282 := n3_; have GE282 := n4_; have NB281_282 := n5_; have NB282_281 := n6_; clear n0_ n1_ n2_ n3_ n4_ n5_ n6_; clear hb hbox hg))
 (try simp only [Act.put, List.setIfInBounds_toArray, List.set_cons_zero, List.set_cons_succ])
 go_cut [19] (fun v19 wc => ∃ (kq : Nat) (x19_2 : Bool), v19 = .bool x19_2 ∧ Aside0 (seedcornref24_SameFunc.j0 kq x19_2 a0_0 l0_1 a1_0 l1_1 = some r) ∧ Aside0 (kq ≤ k) ∧ Aside0 (wc.heap[gb281]? = some (.cells #[.int .i64 a0_0, (.slice A0_1 l0_1.length c0_1)] 24 (0, 0))) ∧ Aside0 (wc.heap[gb282]? = some (.cells #[.int .i64 a1_0, (.slice A1_1 l1_1.length c1_1)] 24 (0, 0))) ∧ Aside0 (Below w.heap.size w wc))
 case first =>
  have H := HC3.out; clear HC3
  by_cases c6 : a0_0 = a1_0
  · rw [if_pos c6] at H
    have c6b0 : (a0_0 == a1_0) = true := beq_iff_eq.mpr c6; have c6b1 : (a0_0 != a1_0) = false := bne_eq_false_iff_eq.mpr c6; clear c6; (first | rw [c6b0] | rw [c6b1] | (simp only [i64_w, i32_w]; rw [c6b0]) | skip); have H' := Aside0.mk H; clear H; have hnb7 := NB281_282.out; have hnc7 := NB282_281.out; have Zz8 := blk2 BK281.out; have Zz9 := blk2 BK282.out; go_wp2
    go_meet
    case rel => exact ⟨_, (((l0_1.length : Int) != (l1_1.length : Int))), (by first | rfl | (simp; done) | (simp [*]; done)), H', ⟨by first | omega | exact Nat.le_refl _⟩, ⟨by (with_reducible repeat (first | apply d1_ | apply d2_ | apply d3_)); exact BK281.out⟩, ⟨by (with_reducible repeat (first | apply d1_ | apply d2_ | apply d3_)); exact BK282.out⟩, ⟨by repeat (first | (with_reducible first | exact HB.out | apply b1_ | apply b2_ | apply b3_ | refine b4_ ?_ GE281.out | refine b4_ ?_ GE282.out) | exact HB.out)⟩⟩
  · rw [if_neg c6] at H
    have c6b0 : (a0_0 == a1_0) = false := beq_eq_false_iff_ne.mpr c6; have c6b1 : (a0_0 != a1_0) = true := bne_iff_ne.mpr c6; (first | rw [c6b0] | rw [c6b1] | (simp only [i64_w, i32_w]; rw [c6b0]) | skip); have H' := Aside0.mk H; clear H; have hnb10 := NB281_282.out; have hnc10 := NB282_281.out; have Zz11 := blk2 BK281.out; have Zz12 := blk2 BK282.out; go_wp2
    go_meet
    case rel => exact ⟨_, (true), (by first | rfl | (simp; done) | (simp [*]; done)), H', ⟨by first | omega | exact Nat.le_refl _⟩, ⟨by (with_reducible repeat (first | apply d1_ | apply d2_ | apply d3_)); exact BK281.out⟩, ⟨by (with_reducible repeat (first | apply d1_ | apply d2_ | apply d3_)); exact BK282.out⟩, ⟨by repeat (first | (with_reducible first | exact HB.out | apply b1_ | apply b2_ | apply b3_ | refine b4_ ?_ GE281.out | refine b4_ ?_ GE282.out) | exact HB.out)⟩⟩
 case rest =>
  clear HC3; (try clear c1); (try clear p2); (try clear c6); (try clear c6b0); (try clear c6b1); (try clear c7); (try clear c10); (try clear Zz11); (try clear Zz12); (try clear Zz8); (try clear Zz9); (try clear Zz11); (try clear Zz12); (try clear Zz8); (try clear Zz9); obtain ⟨kq, x19_2, rfl, HA, HJ2, BK281, BK282, HB⟩ := hcut
  cases kq with
  | zero => exact absurd HA.out (by simp [seedcornref24_SameFunc.j0])
  | succ kj2 =>
   have H := HA.out; clear HA; (simp only [seedcornref24_SameFunc.j0] at H)
   by_cases c13 : x19_2 = true
   · subst c13
     (have H1 : (some false) = some r := by rw [if_pos rfl] at H; exact H); clear H; have H := H1; clear H1; obtain rfl := Option.some.inj H; go_wp2
     go_ret
     exact ⟨by first | rfl | (simp [errW_none, errW_some] <;> rfl) | (simp [*, errW_none, errW_some] <;> rfl), by repeat (first | (with_reducible first | exact HB.out | apply b1_ | apply b2_ | apply b3_ | refine b4_ ?_ GE281.out | refine b4_ ?_ GE282.out) | exact HB.out)⟩
   · replace c13 := Bool.eq_false_iff.mpr c13
     subst c13; (have H1 : (seedcornref24_SameFunc.l0 kj2 0 a0_0 l0_1 a1_0 l1_1) = some r := by rw [if_neg (show ¬ (false = true) by decide)] at H; exact H); clear H; have H := H1; clear H1; have H' := Aside0.mk H; clear H; go_wp2
     go_loopg [5] kj2 (fun kq v5 w' => ∃ (x5_2 : Int), v5 = .int .i64 x5_2 ∧ Aside0 (seedcornref24_SameFunc.l0 kq x5_2 a0_0 l0_1 a1_0 l1_1 = some r) ∧ Aside0 (kq ≤ kj2) ∧ Aside0 (w'.heap[gb281]? = some (.cells #[.int .i64 a0_0, (.slice A0_1 l0_1.length c0_1)] 24 (0, 0))) ∧ Aside0 (w'.heap[gb282]? = some (.cells #[.int .i64 a1_0, (.slice A1_1 l1_1.length c1_1)] 24 (0, 0))) ∧ Aside0 (Below w.heap.size w w'))
     case atStart => exact ⟨(0), (by first | rfl | (simp; done) | (simp [*]; done)), H', ⟨Nat.le_refl _⟩, ⟨by (with_reducible repeat (first | apply d1_ | apply d2_ | apply d3_)); exact BK281.out⟩, ⟨by (with_reducible repeat (first | apply d1_ | apply d2_ | apply d3_)); exact BK282.out⟩, ⟨by repeat (first | (with_reducible first | exact HB.out | apply b1_ | apply b2_ | apply b3_ | refine b4_ ?_ GE281.out | refine b4_ ?_ GE282.out) | exact HB.out)⟩⟩
     case round =>
      clear H'; (try clear c1); (try clear p2); (try clear c6); (try clear c6b0); (try clear c6b1); (try clear c7); (try clear c10); (try clear c13); (try clear Zz11); (try clear Zz12); (try clear Zz8); (try clear Zz9); (try clear Zz11); (try clear Zz12); (try clear Zz8); (try clear Zz9); (try clear p2); obtain ⟨x5_2, rfl, HA, HK2, BK281, BK282, HB⟩ := hrel
      cases gk with
      | zero => exact absurd HA.out (by simp [seedcornref24_SameFunc.l0])
      | succ k2 =>
       have H := HA.out; clear HA; (simp only [seedcornref24_SameFunc.l0] at H)
       by_cases c14 : x5_2 < (l0_1.length : Int)
       · rw [if_pos c14] at H
         have c14b0 : decide (x5_2 < (l0_1.length : Int)) = true := decide_eq_true c14; clear c14
         by_cases c15 : 0 ≤ x5_2
         · rw [if_pos c15] at H
           have c15b0 : decide (0 ≤ x5_2) = true := decide_eq_true c15; clear c15
           by_cases c16 : x5_2 < (l1_1.length : Int)
           · rw [if_pos c16] at H
             have c16b0 : decide (x5_2 < (l1_1.length : Int)) = true := decide_eq_true c16; clear c16; replace H := Option.bind_eq_some_iff.mp H; obtain ⟨t285, A170, H⟩ := H; replace H : (if t285 = true then (seedcornref24_SameFunc.l0 k2 (wrap64 (x5_2 + 1)) a0_0 l0_1 a1_0 l1_1) else (some false)) = some r := H; have A17 := Aside0.mk A170; clear A170
             by_cases c18 : t285 = true
             · subst c18
               (have H1 : (seedcornref24_SameFunc.l0 k2 (wrap64 (x5_2 + 1)) a0_0 l0_1 a1_0 l1_1) = some r := by rw [if_pos rfl] at H; exact H); clear H; have H := H1; clear H1; have H' := Aside0.mk H; clear H; have hnb19 := NB281_282.out; have hnc19 := NB282_281.out; have Zz20 := blk2 BK281.out; (try go_wp2); have n0_ := Aside0.mk (blk_drew BK281.out); have n1_ := Aside0.mk (blk_drew BK282.out); have n2_ := Aside0.mk (below_drew1 HB.out); clear BK281; clear BK282; clear HB; have BK281 := n0_; have BK282 := n1_; have HB := n2_; clear n0_ n1_ n2_; have p283 : 0 ≤ (x5_2 : Int) := of_decide_eq_true (by first | (with_reducible assumption) | assumption); have q283 : x5_2 < (l0_1.length : Int) := of_decide_eq_true (by first | (with_reducible assumption) | assumption); obtain ⟨ad283, A283_0, c283_0, e283, hx283_0, hx283_1, hx283_2, hx283_3, hx283_4, hl283_0, hi283_0⟩ := at_T37 HR0_1.out x5_2 p283 q283; have hw283_4 := hx283_4; have hw283_3 := hx283_3; have hw283_2 := hx283_2; have hw283_1 := hx283_1; have hw283_0 := hx283_0
               cases e283
               replace hx283_0 := (HB.out.cell (World.block_lt_of_cell? w _ hx283_0)).trans hx283_0; replace hx283_1 := (HB.out.cell (World.block_lt_of_cell? w _ hx283_1)).trans hx283_1; replace hx283_2 := (HB.out.cell (World.block_lt_of_cell? w _ hx283_2)).trans hx283_2; replace hx283_3 := (HB.out.cell (World.block_lt_of_cell? w _ hx283_3)).trans hx283_3; replace hx283_4 := (HB.out.cell (World.block_lt_of_cell? w _ hx283_4)).trans hx283_4; have HR283_0 := Aside0.mk hi283_0; have HC283_0 := Aside0.mk hl283_0; clear hi283_0 hl283_0; replace p283 := eq_true p283; replace q283 := eq_true q283; have p284 : 0 ≤ (x5_2 : Int) := of_decide_eq_true (by first | (with_reducible assumption) | assumption); have q284 : x5_2 < (l1_1.length : Int) := of_decide_eq_true (by first | (with_reducible assumption) | assumption); obtain ⟨ad284, A284_0, c284_0, e284, hx284_0, hx284_1, hx284_2, hx284_3, hx284_4, hl284_0, hi284_0⟩ := at_T37 HR1_1.out x5_2 p284 q284; have hw284_4 := hx284_4; have hw284_3 := hx284_3; have hw284_2 := hx284_2; have hw284_1 := hx284_1; have hw284_0 := hx284_0
               cases e284
               replace hx284_0 := (HB.out.cell (World.block_lt_of_cell? w _ hx284_0)).trans hx284_0; replace hx284_1 := (HB.out.cell (World.block_lt_of_cell? w _ hx284_1)).trans hx284_1; replace hx284_2 := (HB.out.cell (World.block_lt_of_cell? w _ hx284_2)).trans hx284_2; replace hx284_3 := (HB.out.cell (World.block_lt_of_cell? w _ hx284_3)).trans hx284_3; replace hx284_4 := (HB.out.cell (World.block_lt_of_cell? w _ hx284_4)).trans hx284_4; have HR284_0 := Aside0.mk hi284_0; have HC284_0 := Aside0.mk hl284_0; clear hi284_0 hl284_0; replace p284 := eq_true p284; replace q284 := eq_true q284; refine start_ (n := 12) (S := fun w' => w'.cell? ⟨gb281, 0, none⟩ = some (.int .i64 a0_0) ∧ w'.cell? ⟨gb281, 1, none⟩ = some (.slice (some ad283) l0_1.length c0_1) ∧ w'.cell? ⟨gb282, 0, none⟩ = some (.int .i64 a1_0) ∧ w'.cell? ⟨gb282, 1, none⟩ = some (.slice (some ad284) l1_1.length c1_1) ∧ w'.cell? (ad283.add ((x5_2).toNat * 5)) = some (.slice A283_0 ((rd_T37 l0_1 x5_2).f0).length c283_0) ∧ w'.cell? ⟨(ad283.add ((x5_2).toNat * 5)).block, (ad283.add ((x5_2).toNat * 5)).off + 1, none⟩ = some (.int .i64 ((rd_T37 l0_1 x5_2).f1)) ∧ w'.cell? ⟨(ad283.add ((x5_2).toNat * 5)).block, (ad283.add ((x5_2).toNat * 5)).off + 2, none⟩ = some (.int .i64 ((rd_T37 l0_1 x5_2).f2)) ∧ w'.cell? ⟨(ad283.add ((x5_2).toNat * 5)).block, (ad283.add ((x5_2).toNat * 5)).off + 3, none⟩ = some (.int .i64 ((rd_T37 l0_1 x5_2).f3)) ∧ w'.cell? ⟨(ad283.add ((x5_2).toNat * 5)).block, (ad283.add ((x5_2).toNat * 5)).off + 4, none⟩ = some (.int .i64 ((rd_T37 l0_1 x5_2).f4)) ∧ w'.cell? (ad284.add ((x5_2).toNat * 5)) = some (.slice A284_0 ((rd_T37 l1_1 x5_2).f0).length c284_0) ∧ w'.cell? ⟨(ad284.add ((x5_2).toNat * 5)).block, (ad284.add ((x5_2).toNat * 5)).off + 1, none⟩ = some (.int .i64 ((rd_T37 l1_1 x5_2).f1)) ∧ w'.cell? ⟨(ad284.add ((x5_2).toNat * 5)).block, (ad284.add ((x5_2).toNat * 5)).off + 2, none⟩ = some (.int .i64 ((rd_T37 l1_1 x5_2).f2)) ∧ w'.cell? ⟨(ad284.add ((x5_2).toNat * 5)).block, (ad284.add ((x5_2).toNat * 5)).off + 3, none⟩ = some (.int .i64 ((rd_T37 l1_1 x5_2).f3)) ∧ w'.cell? ⟨(ad284.add ((x5_2).toNat * 5)).block, (ad284.add ((x5_2).toNat * 5)).off + 4, none⟩ = some (.int .i64 ((rd_T37 l1_1 x5_2).f4))) (ds := []) #[false, false, false, false, false, false, false, false, false, false, false, false] (by kernel_rfl) rfl rfl ⟨(blk_cell BK281.out 0).trans rfl, (blk_cell BK281.out 1).trans rfl, (blk_cell BK282.out 0).trans rfl, (blk_cell BK282.out 1).trans rfl, ((HB.out.cell (World.block_lt_of_cell? w _ hw283_0)).trans hw283_0), ((HB.out.cell (World.block_lt_of_cell? w _ hw283_1)).trans hw283_1), ((HB.out.cell (World.block_lt_of_cell? w _ hw283_2)).trans hw283_2), ((HB.out.cell (World.block_lt_of_cell? w _ hw283_3)).trans hw283_3), ((HB.out.cell (World.block_lt_of_cell? w _ hw283_4)).trans hw283_4), ((HB.out.cell (World.block_lt_of_cell? w _ hw284_0)).trans hw284_0), ((HB.out.cell (World.block_lt_of_cell? w _ hw284_1)).trans hw284_1), ((HB.out.cell (World.block_lt_of_cell? w _ hw284_2)).trans hw284_2), ((HB.out.cell (World.block_lt_of_cell? w _ hw284_3)).trans hw284_3), ((HB.out.cell (World.block_lt_of_cell? w _ hw284_4)).trans hw284_4)⟩ (fun hHeld => ?_); refine with_tabW seedcornref24_SameFunc.tab6 seedcornref24_SameFunc.bits6 (fun HT_ HW_ => ?_); (generalize wr.drew = w21 at BK281 BK282 HB HR283_0 HR284_0 hx283_0 hx283_1 hx283_2 hx283_3 hx283_4 hx284_0 hx284_1 hx284_2 hx284_3 hx284_4 hHeld ⊢); refine pure_ (i := 0) (N := some 27) (v := ?_) (a' := ?_) #[true, false, false, false, false, false, false, false, false, false, false, false] rfl rfl (any_of HT_.out (by kernel_rfl)) (fun _ _ _ h => h) (Or.inl ⟨by rfl, ?_⟩) ?_ ?_; rotate_left
               · intro w'
                 go_simp
                 with_reducible rfl
               rotate_left
               · simp only [Act.put, List.setIfInBounds_toArray, List.set_cons_zero, List.set_cons_succ, i64_w, i32_w]
                 rfl
               refine pure_ (i := 2) (N := some 29) (v := ?_) (a' := ?_) #[true, false, true, false, false, false, false, false, false, false, false, false] rfl rfl (any_of HT_.out (by kernel_rfl)) (fun _ _ _ h => h) (Or.inl ⟨by rfl, ?_⟩) ?_ ?_; rotate_left
               · intro w'
                 go_simp
                 with_reducible rfl
               rotate_left
               · simp only [Act.put, List.setIfInBounds_toArray, List.set_cons_zero, List.set_cons_succ, i64_w, i32_w]
                 rfl
               refine pure_ (i := 5) (N := some 32) (v := ?_) (a' := ?_) #[true, false, true, false, false, true, false, false, false, false, false, false] rfl rfl (any_of HT_.out (by kernel_rfl)) (fun _ _ _ h => h) (Or.inl ⟨by rfl, ?_⟩) ?_ ?_; rotate_left
               · intro w'
                 go_simp
                 with_reducible rfl
               rotate_left
               · simp only [Act.put, List.setIfInBounds_toArray, List.set_cons_zero, List.set_cons_succ, i64_w, i32_w]
                 rfl
               refine pure_ (i := 7) (N := some 34) (v := ?_) (a' := ?_) #[true, false, true, false, false, true, false, true, false, false, false, false] rfl rfl (any_of HT_.out (by kernel_rfl)) (fun _ _ _ h => h) (Or.inl ⟨by rfl, ?_⟩) ?_ ?_; rotate_left
               · intro w'
                 go_simp
                 with_reducible rfl
               rotate_left
               · simp only [Act.put, List.setIfInBounds_toArray, List.set_cons_zero, List.set_cons_succ, i64_w, i32_w]
                 rfl
               refine take_ (i := 1) (N := some 28) (v := ?_) (a' := ?_) #[true, true, true, false, false, true, false, true, false, false, false, false] rfl rfl (take_ofW HT_.out HW_.out (by kernel_rfl)) (fun _ _ _ h => h) (Or.inl ⟨by rfl, ?_⟩) hHeld ?_ ?_; rotate_left
               · rintro w' ⟨s0, s1, s2, s3, s4, s5, s6, s7, s8, s9, s10, s11, s12, s13⟩
                 go_simp
                 with_reducible rfl
               rotate_left
               · simp only [Act.put, List.setIfInBounds_toArray, List.set_cons_zero, List.set_cons_succ, i64_w, i32_w]
                 rfl
               refine pure_ (i := 3) (N := some 30) (v := ?_) (a' := ?_) #[true, true, true, true, false, true, false, true, false, false, false, false] rfl rfl (any_of HT_.out (by kernel_rfl)) (fun _ _ _ h => h) (Or.inl ⟨by rfl, ?_⟩) ?_ ?_; rotate_left
               · intro w'
                 go_simp
                 with_reducible rfl
               rotate_left
               · simp only [Act.put, List.setIfInBounds_toArray, List.set_cons_zero, List.set_cons_succ, i64_w, i32_w]
                 rfl
               refine take_ (i := 4) (N := some 31) (v := ?_) (a' := ?_) #[true, true, true, true, true, true, false, true, false, false, false, false] rfl rfl (take_ofW HT_.out HW_.out (by kernel_rfl)) (fun _ _ _ h => h) (Or.inl ⟨by rfl, ?_⟩) hHeld ?_ ?_; rotate_left
               · rintro w' ⟨s0, s1, s2, s3, s4, s5, s6, s7, s8, s9, s10, s11, s12, s13⟩
                 go_simp
                 with_reducible rfl
               rotate_left
               · simp only [Act.put, List.setIfInBounds_toArray, List.set_cons_zero, List.set_cons_succ, i64_w, i32_w]
                 rfl
               refine take_ (i := 6) (N := some 33) (v := ?_) (a' := ?_) #[true, true, true, true, true, true, true, true, false, false, false, false] rfl rfl (take_ofW HT_.out HW_.out (by kernel_rfl)) (fun _ _ _ h => h) (Or.inl ⟨by rfl, ?_⟩) hHeld ?_ ?_; rotate_left
               · rintro w' ⟨s0, s1, s2, s3, s4, s5, s6, s7, s8, s9, s10, s11, s12, s13⟩
                 go_simp
                 with_reducible rfl
               rotate_left
               · simp only [Act.put, List.setIfInBounds_toArray, List.set_cons_zero, List.set_cons_succ, i64_w, i32_w]
                 rfl
               refine pure_ (i := 8) (N := some 35) (v := ?_) (a' := ?_) #[true, true, true, true, true, true, true, true, true, false, false, false] rfl rfl (any_of HT_.out (by kernel_rfl)) (fun _ _ _ h => h) (Or.inl ⟨by rfl, ?_⟩) ?_ ?_; rotate_left
               · intro w'
                 go_simp
                 with_reducible rfl
               rotate_left
               · simp only [Act.put, List.setIfInBounds_toArray, List.set_cons_zero, List.set_cons_succ, i64_w, i32_w]
                 rfl
               refine take_ (i := 9) (N := some 36) (v := ?_) (a' := ?_) #[true, true, true, true, true, true, true, true, true, true, false, false] rfl rfl (take_ofW HT_.out HW_.out (by kernel_rfl)) (fun _ _ _ h => h) (Or.inl ⟨by rfl, ?_⟩) hHeld ?_ ?_; rotate_left
               · rintro w' ⟨s0, s1, s2, s3, s4, s5, s6, s7, s8, s9, s10, s11, s12, s13⟩
                 go_simp
                 with_reducible rfl
               rotate_left
               · simp only [Act.put, List.setIfInBounds_toArray, List.set_cons_zero, List.set_cons_succ, i64_w, i32_w]
                 rfl
               refine one_ (i := 10) (N := some 37) #[true, true, true, true, true, true, true, true, true, true, true, false] rfl rfl (one_of HT_.out (by kernel_rfl)) (by decide) (fun K hK => ?_); refine goes_ Try.func27 (by kernel_rfl) rfl #[.agg #[.slice A283_0 ((rd_T37 l0_1 x5_2).f0).length c283_0, .int .i64 ((rd_T37 l0_1 x5_2).f1), .int .i64 ((rd_T37 l0_1 x5_2).f2), .int .i64 ((rd_T37 l0_1 x5_2).f3), .int .i64 ((rd_T37 l0_1 x5_2).f4)], .agg #[.slice A284_0 ((rd_T37 l1_1 x5_2).f0).length c284_0, .int .i64 ((rd_T37 l1_1 x5_2).f1), .int .i64 ((rd_T37 l1_1 x5_2).f2), .int .i64 ((rd_T37 l1_1 x5_2).f3), .int .i64 ((rd_T37 l1_1 x5_2).f4)]] (by rfl) rfl rfl (by (try simp only [List.map_toArray, List.map_cons, List.map_nil]); first | done | rfl | (simp only [List.length_drop, List.length_take]; rfl)) ?_; (with_reducible refine (seedcornref24_SameBlock.calls k2 _ _ ((rd_T37 l0_1 x5_2).f0) ((rd_T37 l0_1 x5_2).f1) ((rd_T37 l0_1 x5_2).f2) ((rd_T37 l0_1 x5_2).f3) ((rd_T37 l0_1 x5_2).f4) _ _ ((rd_T37 l1_1 x5_2).f0) ((rd_T37 l1_1 x5_2).f1) ((rd_T37 l1_1 x5_2).f2) ((rd_T37 l1_1 x5_2).f3) ((rd_T37 l1_1 x5_2).f4) true _ ?side1 ?side2 ?side3 ?side4 A17.out).mono ?_); (case side1 => repeat (first | exact (Kd.C_below HR283_0.out HB.out) | (with_reducible refine Kd.C_alloc ?_ _) | (with_reducible refine Kd.C_drewN ?_ _) | (with_reducible refine Kd.C_drew ?_))); (case side2 => exact HC283_0.out); (case side3 => repeat (first | exact (Kd.C_below HR284_0.out HB.out) | (with_reducible refine Kd.C_alloc ?_ _) | (with_reducible refine Kd.C_drewN ?_ _) | (with_reducible refine Kd.C_drew ?_))); (case side4 => exact HC284_0.out); rintro e w22 ⟨rfl, hb⟩; refine ⟨_, rfl, ?_⟩; have n0_ := Aside0.mk (blk_below (g := gb281) (o := .cells #[.int .i64 a0_0, .slice (some ad283) l0_1.length c0_1] 24 (0, 0)) (by (with_reducible repeat (first | apply d1_ | apply d2_ | apply d3_)); exact BK281.out) hb); have n1_ := Aside0.mk (blk_below (g := gb282) (o := .cells #[.int .i64 a1_0, .slice (some ad284) l1_1.length c1_1] 24 (0, 0)) (by (with_reducible repeat (first | apply d1_ | apply d2_ | apply d3_)); exact BK282.out) hb); have n2_ := Aside0.mk (below_step (by repeat (first | (with_reducible first | exact HB.out | apply b1_ | apply b2_ | apply b3_ | refine b4_ ?_ GE281.out | refine b4_ ?_ GE282.out) | exact HB.out)) hb); clear BK281; clear BK282; clear HB; have BK281 := n0_; have BK282 := n1_; have HB := n2_; clear n0_ n1_ n2_; (try clear hb); (try clear hb2); (try clear hk); (try clear hi); refine hK.out _ _ ⟨(blk_cell BK281.out 0).trans rfl, (blk_cell BK281.out 1).trans rfl, (blk_cell BK282.out 0).trans rfl, (blk_cell BK282.out 1).trans rfl, ((HB.out.cell (World.block_lt_of_cell? w _ hw283_0)).trans hw283_0), ((HB.out.cell (World.block_lt_of_cell? w _ hw283_1)).trans hw283_1), ((HB.out.cell (World.block_lt_of_cell? w _ hw283_2)).trans hw283_2), ((HB.out.cell (World.block_lt_of_cell? w _ hw283_3)).trans hw283_3), ((HB.out.cell (World.block_lt_of_cell? w _ hw283_4)).trans hw283_4), ((HB.out.cell (World.block_lt_of_cell? w _ hw284_0)).trans hw284_0), ((HB.out.cell (World.block_lt_of_cell? w _ hw284_1)).trans hw284_1), ((HB.out.cell (World.block_lt_of_cell? w _ hw284_2)).trans hw284_2), ((HB.out.cell (World.block_lt_of_cell? w _ hw284_3)).trans hw284_3), ((HB.out.cell (World.block_lt_of_cell? w _ hw284_4)).trans hw284_4)⟩ (fun hHeld => ?_); clear hK K; refine norm_ (a' := ?_) ?_ ?_; rotate_left
               · show Act.put _ (some 37) _ = _
                 simp only [Act.put, List.setIfInBounds_toArray, List.set_cons_zero, List.set_cons_succ, i64_w, i32_w]
                 rfl
               refine pure_ (i := 11) (N := some 38) (v := ?_) (a' := ?_) #[true, true, true, true, true, true, true, true, true, true, true, true] rfl rfl (any_of HT_.out (by kernel_rfl)) (fun _ _ _ h => h) (Or.inl ⟨by rfl, ?_⟩) ?_ ?_; rotate_left
               · intro w'
                 go_simp
                 with_reducible rfl
               rotate_left
               · simp only [Act.put, List.setIfInBounds_toArray, List.set_cons_zero, List.set_cons_succ, i64_w, i32_w]
                 rfl
               refine done_ (done_of HT_.out (by kernel_rfl)) ?_; (try go_wp2)
               go_roundg k2
               case measure => have := HJ2.out; have := HK2.out; omega
               case rel => exact ⟨(wrap64 (x5_2 + 1)), (by first | rfl | (simp; done) | (simp [*]; done)), H', ⟨by have := HJ2.out; have := HK2.out; omega⟩, ⟨by (with_reducible repeat (first | apply d1_ | apply d2_ | apply d3_)); exact BK281.out⟩, ⟨by (with_reducible repeat (first | apply d1_ | apply d2_ | apply d3_)); exact BK282.out⟩, ⟨by repeat (first | (with_reducible first | exact HB.out | apply b1_ | apply b2_ | apply b3_ | refine b4_ ?_ GE281.out | refine b4_ ?_ GE282.out) | exact HB.out)⟩⟩
             · replace c18 := Bool.eq_false_iff.mpr c18
               subst c18; (have H1 : (some false) = some r := by rw [if_neg (show ¬ (false = true) by decide)] at H; exact H); clear H; have H := H1; clear H1; obtain rfl := Option.some.inj H; have hnb23 := NB281_282.out; have hnc23 := NB282_281.out; have Zz24 := blk2 BK281.out; (try go_wp2); have n0_ := Aside0.mk (blk_drew BK281.out); have n1_ := Aside0.mk (blk_drew BK282.out); have n2_ := Aside0.mk (below_drew1 HB.out); clear BK281; clear BK282; clear HB; have BK281 := n0_; have BK282 := n1_; have HB := n2_; clear n0_ n1_ n2_; have p283 : 0 ≤ (x5_2 : Int) := of_decide_eq_true (by first | (with_reducible assumption) | assumption); have q283 : x5_2 < (l0_1.length : Int) := of_decide_eq_true (by first | (with_reducible assumption) | assumption); obtain ⟨ad283, A283_0, c283_0, e283, hx283_0, hx283_1, hx283_2, hx283_3, hx283_4, hl283_0, hi283_0⟩ := at_T37 HR0_1.out x5_2 p283 q283; have hw283_4 := hx283_4; have hw283_3 := hx283_3; have hw283_2 := hx283_2; have hw283_1 := hx283_1; have hw283_0 := hx283_0
               cases e283
               replace hx283_0 := (HB.out.cell (World.block_lt_of_cell? w _ hx283_0)).trans hx283_0; replace hx283_1 := (HB.out.cell (World.block_lt_of_cell? w _ hx283_1)).trans hx283_1; replace hx283_2 := (HB.out.cell (World.block_lt_of_cell? w _ hx283_2)).trans hx283_2; replace hx283_3 := (HB.out.cell (World.block_lt_of_cell? w _ hx283_3)).trans hx283_3; replace hx283_4 := (HB.out.cell (World.block_lt_of_cell? w _ hx283_4)).trans hx283_4; have HR283_0 := Aside0.mk hi283_0; have HC283_0 := Aside0.mk hl283_0; clear hi283_0 hl283_0; replace p283 := eq_true p283; replace q283 := eq_true q283; have p284 : 0 ≤ (x5_2 : Int) := of_decide_eq_true (by first | (with_reducible assumption) | assumption); have q284 : x5_2 < (l1_1.length : Int) := of_decide_eq_true (by first | (with_reducible assumption) | assumption); obtain ⟨ad284, A284_0, c284_0, e284, hx284_0, hx284_1, hx284_2, hx284_3, hx284_4, hl284_0, hi284_0⟩ := at_T37 HR1_1.out x5_2 p284 q284; have hw284_4 := hx284_4; have hw284_3 := hx284_3; have hw284_2 := hx284_2; have hw284_1 := hx284_1; have hw284_0 := hx284_0
               cases e284
               replace hx284_0 := (HB.out.cell (World.block_lt_of_cell? w _ hx284_0)).trans hx284_0; replace hx284_1 := (HB.out.cell (World.block_lt_of_cell? w _ hx284_1)).trans hx284_1; replace hx284_2 := (HB.out.cell (World.block_lt_of_cell? w _ hx284_2)).trans hx284_2; replace hx284_3 := (HB.out.cell (World.block_lt_of_cell? w _ hx284_3)).trans hx284_3; replace hx284_4 := (HB.out.cell (World.block_lt_of_cell? w _ hx284_4)).trans hx284_4; have HR284_0 := Aside0.mk hi284_0; have HC284_0 := Aside0.mk hl284_0; clear hi284_0 hl284_0; replace p284 := eq_true p284; replace q284 := eq_true q284; refine start_ (n := 12) (S := fun w' => w'.cell? ⟨gb281, 0, none⟩ = some (.int .i64 a0_0) ∧ w'.cell? ⟨gb281, 1, none⟩ = some (.slice (some ad283) l0_1.length c0_1) ∧ w'.cell? ⟨gb282, 0, none⟩ = some (.int .i64 a1_0) ∧ w'.cell? ⟨gb282, 1, none⟩ = some (.slice (some ad284) l1_1.length c1_1) ∧ w'.cell? (ad283.add ((x5_2).toNat * 5)) = some (.slice A283_0 ((rd_T37 l0_1 x5_2).f0).length c283_0) ∧ w'.cell? ⟨(ad283.add ((x5_2).toNat * 5)).block, (ad283.add ((x5_2).toNat * 5)).off + 1, none⟩ = some (.int .i64 ((rd_T37 l0_1 x5_2).f1)) ∧ w'.cell? ⟨(ad283.add ((x5_2).toNat * 5)).block, (ad283.add ((x5_2).toNat * 5)).off + 2, none⟩ = some (.int .i64 ((rd_T37 l0_1 x5_2).f2)) ∧ w'.cell? ⟨(ad283.add ((x5_2).toNat * 5)).block, (ad283.add ((x5_2).toNat * 5)).off + 3, none⟩ = some (.int .i64 ((rd_T37 l0_1 x5_2).f3)) ∧ w'.cell? ⟨(ad283.add ((x5_2).toNat * 5)).block, (ad283.add ((x5_2).toNat * 5)).off + 4, none⟩ = some (.int .i64 ((rd_T37 l0_1 x5_2).f4)) ∧ w'.cell? (ad284.add ((x5_2).toNat * 5)) = some (.slice A284_0 ((rd_T37 l1_1 x5_2).f0).length c284_0) ∧ w'.cell? ⟨(ad284.add ((x5_2).toNat * 5)).block, (ad284.add ((x5_2).toNat * 5)).off + 1, none⟩ = some (.int .i64 ((rd_T37 l1_1 x5_2).f1)) ∧ w'.cell? ⟨(ad284.add ((x5_2).toNat * 5)).block, (ad284.add ((x5_2).toNat * 5)).off + 2, none⟩ = some (.int .i64 ((rd_T37 l1_1 x5_2).f2)) ∧ w'.cell? ⟨(ad284.add ((x5_2).toNat * 5)).block, (ad284.add ((x5_2).toNat * 5)).off + 3, none⟩ = some (.int .i64 ((rd_T37 l1_1 x5_2).f3)) ∧ w'.cell? ⟨(ad284.add ((x5_2).toNat * 5)).block, (ad284.add ((x5_2).toNat * 5)).off + 4, none⟩ = some (.int .i64 ((rd_T37 l1_1 x5_2).f4))) (ds := []) #[false, false, false, false, false, false, false, false, false, false, false, false] (by kernel_rfl) rfl rfl ⟨(blk_cell BK281.out 0).trans rfl, (blk_cell BK281.out 1).trans rfl, (blk_cell BK282.out 0).trans rfl, (blk_cell BK282.out 1).trans rfl, ((HB.out.cell (World.block_lt_of_cell? w _ hw283_0)).trans hw283_0), ((HB.out.cell (World.block_lt_of_cell? w _ hw283_1)).trans hw283_1), ((HB.out.cell (World.block_lt_of_cell? w _ hw283_2)).trans hw283_2), ((HB.out.cell (World.block_lt_of_cell? w _ hw283_3)).trans hw283_3), ((HB.out.cell (World.block_lt_of_cell? w _ hw283_4)).trans hw283_4), ((HB.out.cell (World.block_lt_of_cell? w _ hw284_0)).trans hw284_0), ((HB.out.cell (World.block_lt_of_cell? w _ hw284_1)).trans hw284_1), ((HB.out.cell (World.block_lt_of_cell? w _ hw284_2)).trans hw284_2), ((HB.out.cell (World.block_lt_of_cell? w _ hw284_3)).trans hw284_3), ((HB.out.cell (World.block_lt_of_cell? w _ hw284_4)).trans hw284_4)⟩ (fun hHeld => ?_); refine with_tabW seedcornref24_SameFunc.tab6 seedcornref24_SameFunc.bits6 (fun HT_ HW_ => ?_); (generalize wr.drew = w25 at BK281 BK282 HB HR283_0 HR284_0 hx283_0 hx283_1 hx283_2 hx283_3 hx283_4 hx284_0 hx284_1 hx284_2 hx284_3 hx284_4 hHeld ⊢); refine pure_ (i := 0) (N := some 27) (v := ?_) (a' := ?_) #[true, false, false, false, false, false, false, false, false, false, false, false] rfl rfl (any_of HT_.out (by kernel_rfl)) (fun _ _ _ h => h) (Or.inl ⟨by rfl, ?_⟩) ?_ ?_; rotate_left
               · intro w'
                 go_simp
                 with_reducible rfl
               rotate_left
               · simp only [Act.put, List.setIfInBounds_toArray, List.set_cons_zero, List.set_cons_succ, i64_w, i32_w]
                 rfl
               refine pure_ (i := 2) (N := some 29) (v := ?_) (a' := ?_) #[true, false, true, false, false, false, false, false, false, false, false, false] rfl rfl (any_of HT_.out (by kernel_rfl)) (fun _ _ _ h => h) (Or.inl ⟨by rfl, ?_⟩) ?_ ?_; rotate_left
               · intro w'
                 go_simp
                 with_reducible rfl
               rotate_left
               · simp only [Act.put, List.setIfInBounds_toArray, List.set_cons_zero, List.set_cons_succ, i64_w, i32_w]
                 rfl
               refine pure_ (i := 5) (N := some 32) (v := ?_) (a' := ?_) #[true, false, true, false, false, true, false, false, false, false, false, false] rfl rfl (any_of HT_.out (by kernel_rfl)) (fun _ _ _ h => h) (Or.inl ⟨by rfl, ?_⟩) ?_ ?_; rotate_left
               · intro w'
                 go_simp
                 with_reducible rfl
               rotate_left
               · simp only [Act.put, List.setIfInBounds_toArray, List.set_cons_zero, List.set_cons_succ, i64_w, i32_w]
                 rfl
               refine pure_ (i := 7) (N := some 34) (v := ?_) (a' := ?_) #[true, false, true, false, false, true, false, true, false, false, false, false] rfl rfl (any_of HT_.out (by kernel_rfl)) (fun _ _ _ h => h) (Or.inl ⟨by rfl, ?_⟩) ?_ ?_; rotate_left
               · intro w'
                 go_simp
                 with_reducible rfl
               rotate_left
               · simp only [Act.put, List.setIfInBounds_toArray, List.set_cons_zero, List.set_cons_succ, i64_w, i32_w]
                 rfl
               refine take_ (i := 1) (N := some 28) (v := ?_) (a' := ?_) #[true, true, true, false, false, true, false, true, false, false, false, false] rfl rfl (take_ofW HT_.out HW_.out (by kernel_rfl)) (fun _ _ _ h => h) (Or.inl ⟨by rfl, ?_⟩) hHeld ?_ ?_; rotate_left
               · rintro w' ⟨s0, s1, s2, s3, s4, s5, s6, s7, s8, s9, s10, s11, s12, s13⟩
                 go_simp
                 with_reducible rfl
               rotate_left
               · simp only [Act.put, List.setIfInBounds_toArray, List.set_cons_zero, List.set_cons_succ, i64_w, i32_w]
                 rfl
               refine pure_ (i := 3) (N := some 30) (v := ?_) (a' := ?_) #[true, true, true, true, false, true, false, true, false, false, false, false] rfl rfl (any_of HT_.out (by kernel_rfl)) (fun _ _ _ h => h) (Or.inl ⟨by rfl, ?_⟩) ?_ ?_; rotate_left
               · intro w'
                 go_simp
                 with_reducible rfl
               rotate_left
               · simp only [Act.put, List.setIfInBounds_toArray, List.set_cons_zero, List.set_cons_succ, i64_w, i32_w]
                 rfl
               refine take_ (i := 4) (N := some 31) (v := ?_) (a' := ?_) #[true, true, true, true, true, true, false, true, false, false, false, false] rfl rfl (take_ofW HT_.out HW_.out (by kernel_rfl)) (fun _ _ _ h => h) (Or.inl ⟨by rfl, ?_⟩) hHeld ?_ ?_; rotate_left
               · rintro w' ⟨s0, s1, s2, s3, s4, s5, s6, s7, s8, s9, s10, s11, s12, s13⟩
                 go_simp
                 with_reducible rfl
               rotate_left
               · simp only [Act.put, List.setIfInBounds_toArray, List.set_cons_zero, List.set_cons_succ, i64_w, i32_w]
                 rfl
               refine take_ (i := 6) (N := some 33) (v := ?_) (a' := ?_) #[true, true, true, true, true, true, true, true, false, false, false, false] rfl rfl (take_ofW HT_.out HW_.out (by kernel_rfl)) (fun _ _ _ h => h) (Or.inl ⟨by rfl, ?_⟩) hHeld ?_ ?_; rotate_left
               · rintro w' ⟨s0, s1, s2, s3, s4, s5, s6, s7, s8, s9, s10, s11, s12, s13⟩
                 go_simp
                 with_reducible rfl
               rotate_left
               · simp only [Act.put, List.setIfInBounds_toArray, List.set_cons_zero, List.set_cons_succ, i64_w, i32_w]
                 rfl
               refine pure_ (i := 8) (N := some 35) (v := ?_) (a' := ?_) #[true, true, true, true, true, true, true, true, true, false, false, false] rfl rfl (any_of HT_.out (by kernel_rfl)) (fun _ _ _ h => h) (Or.inl ⟨by rfl, ?_⟩) ?_ ?_; rotate_left
               · intro w'
                 go_simp
                 with_reducible rfl
               rotate_left
               · simp only [Act.put, List.setIfInBounds_toArray, List.set_cons_zero, List.set_cons_succ, i64_w, i32_w]
                 rfl
               refine take_ (i := 9) (N := some 36) (v := ?_) (a' := ?_) #[true, true, true, true, true, true, true, true, true, true, false, false] rfl rfl (take_ofW HT_.out HW_.out (by kernel_rfl)) (fun _ _ _ h => h) (Or.inl ⟨by rfl, ?_⟩) hHeld ?_ ?_; rotate_left
               · rintro w' ⟨s0, s1, s2, s3, s4, s5, s6, s7, s8, s9, s10, s11, s12, s13⟩
                 go_simp
                 with_reducible rfl
               rotate_left
               · simp only [Act.put, List.setIfInBounds_toArray, List.set_cons_zero, List.set_cons_succ, i64_w, i32_w]
                 rfl
               refine one_ (i := 10) (N := some 37) #[true, true, true, true, true, true, true, true, true, true, true, false] rfl rfl (one_of HT_.out (by kernel_rfl)) (by decide) (fun K hK => ?_); refine goes_ Try.func27 (by kernel_rfl) rfl #[.agg #[.slice A283_0 ((rd_T37 l0_1 x5_2).f0).length c283_0, .int .i64 ((rd_T37 l0_1 x5_2).f1), .int .i64 ((rd_T37 l0_1 x5_2).f2), .int .i64 ((rd_T37 l0_1 x5_2).f3), .int .i64 ((rd_T37 l0_1 x5_2).f4)], .agg #[.slice A284_0 ((rd_T37 l1_1 x5_2).f0).length c284_0, .int .i64 ((rd_T37 l1_1 x5_2).f1), .int .i64 ((rd_T37 l1_1 x5_2).f2), .int .i64 ((rd_T37 l1_1 x5_2).f3), .int .i64 ((rd_T37 l1_1 x5_2).f4)]] (by rfl) rfl rfl (by (try simp only [List.map_toArray, List.map_cons, List.map_nil]); first | done | rfl | (simp only [List.length_drop, List.length_take]; rfl)) ?_; (with_reducible refine (seedcornref24_SameBlock.calls k2 _ _ ((rd_T37 l0_1 x5_2).f0) ((rd_T37 l0_1 x5_2).f1) ((rd_T37 l0_1 x5_2).f2) ((rd_T37 l0_1 x5_2).f3) ((rd_T37 l0_1 x5_2).f4) _ _ ((rd_T37 l1_1 x5_2).f0) ((rd_T37 l1_1 x5_2).f1) ((rd_T37 l1_1 x5_2).f2) ((rd_T37 l1_1 x5_2).f3) ((rd_T37 l1_1 x5_2).f4) false _ ?side1 ?side2 ?side3 ?side4 A17.out).mono ?_); (case side1 => repeat (first | exact (Kd.C_below HR283_0.out HB.out) | (with_reducible refine Kd.C_alloc ?_ _) | (with_reducible refine Kd.C_drewN ?_ _) | (with_reducible refine Kd.C_drew ?_))); (case side2 => exact HC283_0.out); (case side3 => repeat (first | exact (Kd.C_below HR284_0.out HB.out) | (with_reducible refine Kd.C_alloc ?_ _) | (with_reducible refine Kd.C_drewN ?_ _) | (with_reducible refine Kd.C_drew ?_))); (case side4 => exact HC284_0.out); rintro e w26 ⟨rfl, hb⟩; refine ⟨_, rfl, ?_⟩; have n0_ := Aside0.mk (blk_below (g := gb281) (o := .cells #[.int .i64 a0_0, .slice (some ad283) l0_1.length c0_1] 24 (0, 0)) (by (with_reducible repeat (first | apply d1_ | apply d2_ | apply d3_)); exact BK281.out) hb); have n1_ := Aside0.mk (blk_below (g := gb282) (o := .cells #[.int .i64 a1_0, .slice (some ad284) l1_1.length c1_1] 24 (0, 0)) (by (with_reducible repeat (first | apply d1_ | apply d2_ | apply d3_)); exact BK282.out) hb); have n2_ := Aside0.mk (below_step (by repeat (first | (with_reducible first | exact HB.out | apply b1_ | apply b2_ | apply b3_ | refine b4_ ?_ GE281.out | refine b4_ ?_ GE282.out) | exact HB.out)) hb); clear BK281; clear BK282; clear HB; have BK281 := n0_; have BK282 := n1_; have HB := n2_; clear n0_ n1_ n2_; (try clear hb); (try clear hb2); (try clear hk); (try clear hi); refine hK.out _ _ ⟨(blk_cell BK281.out 0).trans rfl, (blk_cell BK281.out 1).trans rfl, (blk_cell BK282.out 0).trans rfl, (blk_cell BK282.out 1).trans rfl, ((HB.out.cell (World.block_lt_of_cell? w _ hw283_0)).trans hw283_0), ((HB.out.cell (World.block_lt_of_cell? w _ hw283_1)).trans hw283_1), ((HB.out.cell (World.block_lt_of_cell? w _ hw283_2)).trans hw283_2), ((HB.out.cell (World.block_lt_of_cell? w _ hw283_3)).trans hw283_3), ((HB.out.cell (World.block_lt_of_cell? w _ hw283_4)).trans hw283_4), ((HB.out.cell (World.block_lt_of_cell? w _ hw284_0)).trans hw284_0), ((HB.out.cell (World.block_lt_of_cell? w _ hw284_1)).trans hw284_1), ((HB.out.cell (World.block_lt_of_cell? w _ hw284_2)).trans hw284_2), ((HB.out.cell (World.block_lt_of_cell? w _ hw284_3)).trans hw284_3), ((HB.out.cell (World.block_lt_of_cell? w _ hw284_4)).trans hw284_4)⟩ (fun hHeld => ?_); clear hK K; refine norm_ (a' := ?_) ?_ ?_; rotate_left
               · show Act.put _ (some 37) _ = _
                 simp only [Act.put, List.setIfInBounds_toArray, List.set_cons_zero, List.set_cons_succ, i64_w, i32_w]
                 rfl
               refine pure_ (i := 11) (N := some 38) (v := ?_) (a' := ?_) #[true, true, true, true, true, true, true, true, true, true, true, true] rfl rfl (any_of HT_.out (by kernel_rfl)) (fun _ _ _ h => h) (Or.inl ⟨by rfl, ?_⟩) ?_ ?_; rotate_left
               · intro w'
                 go_simp
                 with_reducible rfl
               rotate_left
               · simp only [Act.put, List.setIfInBounds_toArray, List.set_cons_zero, List.set_cons_succ, i64_w, i32_w]
                 rfl
               refine done_ (done_of HT_.out (by kernel_rfl)) ?_; (try go_wp2)
               go_ret
               exact ⟨by first | rfl | (simp [errW_none, errW_some] <;> rfl) | (simp [*, errW_none, errW_some] <;> rfl), by repeat (first | (with_reducible first | exact HB.out | apply b1_ | apply b2_ | apply b3_ | refine b4_ ?_ GE281.out | refine b4_ ?_ GE282.out) | exact HB.out)⟩
           · rw [if_neg c16] at H
             exact absurd H (by simp)
         · rw [if_neg c15] at H
           exact absurd H (by simp)
       · rw [if_neg c14] at H
         have c14b0 : decide (x5_2 < (l0_1.length : Int)) = false := decide_eq_false c14; clear c14; obtain rfl := Option.some.inj H; have hnb27 := NB281_282.out; have hnc27 := NB282_281.out; have Zz28 := blk2 BK281.out; go_wp2
         go_ret
         exact ⟨by first | rfl | (simp [errW_none, errW_some] <;> rfl) | (simp [*, errW_none, errW_some] <;> rfl), by repeat (first | (with_reducible first | exact HB.out | apply b1_ | apply b2_ | apply b3_ | refine b4_ ?_ GE281.out | refine b4_ ?_ GE282.out) | exact HB.out)⟩

end Go.Proofs.Ytcfagmdopkginaa.PF
