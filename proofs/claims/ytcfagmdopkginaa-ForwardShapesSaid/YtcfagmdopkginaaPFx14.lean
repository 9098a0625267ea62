-- written by a program of this session (print.sh turned)
import Derived.Test.YtcfagmdopkginaaPFx0
namespace Go.Proofs.Ytcfagmdopkginaa.PF
open Go.RowKit Go.Proofs.YtcfagmdopkginaaW.PrintWords Go.Proofs.YtcfagmdopkginaaW.PrintLast Go.Proofs.YtcfagmdopkginaaW.PrintMore
attribute [local go_sem] max2_int min2_int max_two min_two max_three min_three max_four min_four   -- for this text's walks alone
set_option linter.unusedVariables false
set_option linter.unusedSimpArgs false

/-! ### seedcornlaw31_full: function 17 -/
mutual
def seedcornlaw31_full.l0 : Nat → Int → Int → Int → List (List Bool) → Option (Bool)
 | 0, _, _, _, _ => none
 | k + 1, x1, x2, x7, x201000 => if x7 < x1 then (if 0 ≤ x7 then (if x7 < (x201000.length : Int) then (if ((rd_L6 x201000 x7).length : Int) = x2 then (seedcornlaw31_full.l1 k x1 x2 x7 0 x201000) else (some false)) else (none)) else (none)) else (some true)
def seedcornlaw31_full.l1 : Nat → Int → Int → Int → Int → List (List Bool) → Option (Bool)
 | 0, _, _, _, _, _ => none
 | k + 1, x1, x2, x7, x8, x201000 => if x8 < x2 then (if 0 ≤ x7 then (if x7 < (x201000.length : Int) then (if 0 ≤ x8 then (if x8 < ((rd_L6 x201000 x7).length : Int) then (if (rdOf false (rd_L6 x201000 x7) x8 = true) then (seedcornlaw31_full.l1 k x1 x2 x7 (wrap64 (x8 + 1)) x201000) else (some false)) else (none)) else (none)) else (none)) else (none)) else (seedcornlaw31_full.l0 k x1 x2 (wrap64 (x7 + 1)) x201000)
end
def seedcornlaw31_full.f (k : Nat) (l0_0 : List (List Bool)) (a1 : Int) (a2 : Int) : Option (Bool) := if (l0_0.length : Int) = a1 then (seedcornlaw31_full.l0 k a1 a2 0 l0_0) else (some false)
set_option maxHeartbeats 40000000 in
set_option maxRecDepth 100000 in
theorem seedcornlaw31_full.calls (k : Nat) (A0_0 : Option Addr) (c0_0 : Nat) (l0_0 : List (List Bool)) (a1 : Int) (a2 : Int) (r : Bool) (w : World) (hr0_0 : Kd.C (Kd.slice 4 Kd.bool) w A0_0 l0_0.length l0_0) (hc0_0 : l0_0.length ≤ c0_0) (h : seedcornlaw31_full.f k l0_0 a1 a2 = some r) :
 Calls Try.prog 17 #[.agg #[.slice A0_0 l0_0.length c0_0], .int .i64 a1, .int .i64 a2] w fun e w' => e = .returned (.bool r) ∧ Below w.heap.size w w' := by
 have hu29 := Try.underlying29; have HR0_0 := Aside0.mk hr0_0; have HC0_0 := Aside0.mk hc0_0; clear hr0_0 hc0_0; have HB := Aside0.mk (Below.refl w.heap.size w); have H : (if (l0_0.length : Int) = a1 then (seedcornlaw31_full.l0 k a1 a2 0 l0_0) else (some false)) = some r := h; clear h
 by_cases c4 : (l0_0.length : Int) = a1
 · rw [if_pos c4] at H
   have c4b0 : ((l0_0.length : Int) == a1) = true := beq_iff_eq.mpr c4; have c4b1 : ((l0_0.length : Int) != a1) = false := bne_eq_false_iff_eq.mpr c4; clear c4; have H' := Aside0.mk H; clear H
   go_enter Try.func17, Try.ntmps17
   go_wp2_with (first | ((with_reducible refine gate_dst (N := 3) rfl ?_); refine box_event ?hg (N := 3) ?hd (cs := #[.slice A0_0 l0_0.length c0_0]) (t := 29) ?hr ?_; (case hd => rfl); (case hg => rfl); (case hr => first | (go_simp; done) | (go_simp; rfl)); intro gb200 hg w5 hbox hb; have n0_ := Aside0.mk (below_step (by repeat (first | (with_reducible first | exact HB.out | apply b1_ | apply b2_ | apply b3_) | exact HB.out)) hb); have n1_ := Aside0.mk (hbox); have n2_ := Aside0.mk ((by rw [hg]; exact (below_size (by repeat (first | (with_reducible first | exact HB.out | apply b1_ | apply b2_ | apply b3_) | exact HB.out))) : w.heap.size ≤ gb200)); have n3_ := Aside0.mk ((by rw [hg]; exact (below_size (by repeat (first | (with_reducible first | exact HB.out | apply b1_ | apply b2_ | apply b3_) | exact HB.out))) : w.heap.size ≤ gb200)); clear HB; have HB := n0_; have BK200 := n1_; have GW200 := n2_; have GE200 := n3_; clear n0_ n1_ n2_ n3_; clear hb hbox hg; have Zz6 := blk1 BK200.out))
   go_loopg [7] k (fun kq v7 w' => ∃ (x7_1 : Int), v7 = .int .i64 x7_1 ∧ Aside0 (seedcornlaw31_full.l0 kq a1 a2 x7_1 l0_0 = some r) ∧ Aside0 (kq ≤ k) ∧ Aside0 (w'.heap[gb200]? = some (.cells #[(.slice A0_0 l0_0.length c0_0)] 29 (0, 0))) ∧ Aside0 (Below w.heap.size w w'))
   case atStart => exact ⟨(0), (by first | rfl | (simp; done) | (simp [*]; done)), H', ⟨Nat.le_refl _⟩, ⟨by (with_reducible repeat (first | apply d1_ | apply d2_ | apply d3_)); exact BK200.out⟩, ⟨by repeat (first | (with_reducible first | exact HB.out | apply b1_ | apply b2_ | apply b3_ | refine b4_ ?_ GE200.out) | exact HB.out)⟩⟩
   case round =>
    clear H'; (try clear c1); (try clear p2); (try clear c4); (try clear c4b0); (try clear c4b1); (try clear Zz6); obtain ⟨x7_1, rfl, HA, HK1, BK200, HB⟩ := hrel
    cases gk with
    | zero => exact absurd HA.out (by simp [seedcornlaw31_full.l0])
    | succ k1 =>
     have H := HA.out; clear HA; (simp only [seedcornlaw31_full.l0] at H)
     by_cases c7 : x7_1 < a1
     · rw [if_pos c7] at H
       have c7b0 : decide (x7_1 < a1) = true := decide_eq_true c7; clear c7
       by_cases c8 : 0 ≤ x7_1
       · rw [if_pos c8] at H
         have c8b0 : decide (0 ≤ x7_1) = true := decide_eq_true c8; clear c8
         by_cases c9 : x7_1 < (l0_0.length : Int)
         · rw [if_pos c9] at H
           have c9b0 : decide (x7_1 < (l0_0.length : Int)) = true := decide_eq_true c9; clear c9
           by_cases c10 : ((rd_L6 l0_0 x7_1).length : Int) = a2
           · rw [if_pos c10] at H
             have c10b0 : (((rd_L6 l0_0 x7_1).length : Int) == a2) = true := beq_iff_eq.mpr c10; have c10b1 : (((rd_L6 l0_0 x7_1).length : Int) != a2) = false := bne_eq_false_iff_eq.mpr c10; clear c10; have H' := Aside0.mk H; clear H; have Zz11 := blk1 BK200.out; have p201 : 0 ≤ (x7_1 : Int) := of_decide_eq_true (by first | (with_reducible assumption) | assumption); have q201 : x7_1 < (l0_0.length : Int) := of_decide_eq_true (by first | (with_reducible assumption) | assumption); obtain ⟨ad201, A201_0, c201_0, e201, hx201_0, hl201_0, hi201_0⟩ := at_L6 HR0_0.out x7_1 p201 q201
             cases e201
             replace hx201_0 := (HB.out.cell (World.block_lt_of_cell? w _ hx201_0)).trans hx201_0; have HR201_0 := Aside0.mk hi201_0; have HC201_0 := Aside0.mk hl201_0; clear hi201_0 hl201_0; replace p201 := eq_true p201; replace q201 := eq_true q201; go_wp2
             go_loopg [8] k1 (fun kq v8 w' => ∃ (x8_2 : Int), v8 = .int .i64 x8_2 ∧ Aside0 (seedcornlaw31_full.l1 kq a1 a2 x7_1 x8_2 l0_0 = some r) ∧ Aside0 (kq ≤ k1) ∧ Aside0 (w'.heap[gb200]? = some (.cells #[(.slice (some ad201) l0_0.length c0_0)] 29 (0, 0))) ∧ Aside0 (Below w.heap.size w w'))
             case atStart => exact ⟨(0), (by first | rfl | (simp; done) | (simp [*]; done)), H', ⟨Nat.le_refl _⟩, ⟨by (with_reducible repeat (first | apply d1_ | apply d2_ | apply d3_)); exact BK200.out⟩, ⟨by repeat (first | (with_reducible first | exact HB.out | apply b1_ | apply b2_ | apply b3_ | refine b4_ ?_ GE200.out) | exact HB.out)⟩⟩
             case round =>
              clear H'; (try clear c1); (try clear c2); (try clear p2); (try clear q2); (try clear hx2); (try clear c4); (try clear c4b0); (try clear c4b1); (try clear c7); (try clear c7b0); (try clear c8); (try clear c8b0); (try clear c9); (try clear c9b0); (try clear c10); (try clear c10b0); (try clear c10b1); (try clear Zz11); (try clear Zz6); (try clear Zz11); (try clear Zz6); (try clear hx201_0); (try clear p2); (try clear p201); (try clear q201); obtain ⟨x8_2, rfl, HA, HK2, BK200, HB⟩ := hrel
              cases gk with
              | zero => exact absurd HA.out (by simp [seedcornlaw31_full.l1])
              | succ k2 =>
               have H := HA.out; clear HA; (simp only [seedcornlaw31_full.l1] at H)
               by_cases c12 : x8_2 < a2
               · rw [if_pos c12] at H
                 have c12b0 : decide (x8_2 < a2) = true := decide_eq_true c12; clear c12
                 by_cases c13 : 0 ≤ x7_1
                 · rw [if_pos c13] at H
                   have c13b0 : decide (0 ≤ x7_1) = true := decide_eq_true c13; clear c13
                   by_cases c14 : x7_1 < (l0_0.length : Int)
                   · rw [if_pos c14] at H
                     have c14b0 : decide (x7_1 < (l0_0.length : Int)) = true := decide_eq_true c14; clear c14
                     by_cases c15 : 0 ≤ x8_2
                     · rw [if_pos c15] at H
                       have c15b0 : decide (0 ≤ x8_2) = true := decide_eq_true c15; clear c15
                       by_cases c16 : x8_2 < ((rd_L6 l0_0 x7_1).length : Int)
                       · rw [if_pos c16] at H
                         have c16b0 : decide (x8_2 < ((rd_L6 l0_0 x7_1).length : Int)) = true := decide_eq_true c16; clear c16; obtain ⟨bq17, hbq17⟩ : ∃ b_ : Bool, b_ = (rdOf false (rd_L6 l0_0 x7_1) x8_2) := ⟨_, rfl⟩; (replace H : (if (bq17 = true) then (seedcornlaw31_full.l1 k2 a1 a2 x7_1 (wrap64 (x8_2 + 1)) l0_0) else (some false)) = some r := by rw [← hbq17] at H; exact H); have Nbq17 := Aside0.mk hbq17; clear hbq17
                         by_cases c18 : (bq17 = true)
                         · subst c18
                           (have H1 : (seedcornlaw31_full.l1 k2 a1 a2 x7_1 (wrap64 (x8_2 + 1)) l0_0) = some r := by rw [if_pos rfl] at H; exact H); clear H; have H := H1; clear H1; have H' := Aside0.mk H; clear H; have Zz19 := blk1 BK200.out; have p202 : 0 ≤ (x7_1 : Int) := of_decide_eq_true (by first | (with_reducible assumption) | assumption); have q202 : x7_1 < (l0_0.length : Int) := of_decide_eq_true (by first | (with_reducible assumption) | assumption); obtain ⟨ad202, A202_0, c202_0, e202, hx202_0, hl202_0, hi202_0⟩ := at_L6 HR0_0.out x7_1 p202 q202; obtain rfl : ad201 = ad202 := (by injection e202); replace hx202_0 := (HB.out.cell (World.block_lt_of_cell? w _ hx202_0)).trans hx202_0; have HR202_0 := Aside0.mk hi202_0; have HC202_0 := Aside0.mk hl202_0; clear hi202_0 hl202_0; replace p202 := eq_true p202; replace q202 := eq_true q202; have p203 : 0 ≤ (x8_2 : Int) := of_decide_eq_true (by first | (with_reducible assumption) | assumption); have q203 : x8_2 < ((rd_L6 l0_0 x7_1).length : Int) := of_decide_eq_true (by first | (with_reducible assumption) | assumption); obtain ⟨ad203, e203, hx203_0⟩ := Kd.at_bool HR202_0.out x8_2 p203 q203; (try rw [← Nbq17.out] at hx203_0)
                           cases e203
                           replace hx203_0 := (HB.out.cell (World.block_lt_of_cell? w _ hx203_0)).trans hx203_0; replace p203 := eq_true p203; replace q203 := eq_true q203; go_wp2
                           go_roundg k2
                           case measure => have := HK1.out; have := HK2.out; omega
                           case rel => exact ⟨(wrap64 (x8_2 + 1)), (by first | rfl | (simp; done) | (simp [*]; done)), H', ⟨by have := HK1.out; have := HK2.out; omega⟩, ⟨by (with_reducible repeat (first | apply d1_ | apply d2_ | apply d3_)); exact BK200.out⟩, ⟨by repeat (first | (with_reducible first | exact HB.out | apply b1_ | apply b2_ | apply b3_ | refine b4_ ?_ GE200.out) | exact HB.out)⟩⟩
                         · replace c18 := Bool.eq_false_iff.mpr c18
                           subst c18; (have H1 : (some false) = some r := by rw [if_neg (show ¬ (false = true) by decide)] at H; exact H); clear H; have H := H1; clear H1; obtain rfl := Option.some.inj H; have Zz20 := blk1 BK200.out; have p202 : 0 ≤ (x7_1 : Int) := of_decide_eq_true (by first | (with_reducible assumption) | assumption); have q202 : x7_1 < (l0_0.length : Int) := of_decide_eq_true (by first | (with_reducible assumption) | assumption); obtain ⟨ad202, A202_0, c202_0, e202, hx202_0, hl202_0, hi202_0⟩ := at_L6 HR0_0.out x7_1 p202 q202; obtain rfl : ad201 = ad202 := (by injection e202); replace hx202_0 := (HB.out.cell (World.block_lt_of_cell? w _ hx202_0)).trans hx202_0; have HR202_0 := Aside0.mk hi202_0; have HC202_0 := Aside0.mk hl202_0; clear hi202_0 hl202_0; replace p202 := eq_true p202; replace q202 := eq_true q202; have p203 : 0 ≤ (x8_2 : Int) := of_decide_eq_true (by first | (with_reducible assumption) | assumption); have q203 : x8_2 < ((rd_L6 l0_0 x7_1).length : Int) := of_decide_eq_true (by first | (with_reducible assumption) | assumption); obtain ⟨ad203, e203, hx203_0⟩ := Kd.at_bool HR202_0.out x8_2 p203 q203; (try rw [← Nbq17.out] at hx203_0)
                           cases e203
                           replace hx203_0 := (HB.out.cell (World.block_lt_of_cell? w _ hx203_0)).trans hx203_0; replace p203 := eq_true p203; replace q203 := eq_true q203; go_wp2
                           go_ret
                           exact ⟨by first | rfl | (simp [errW_none, errW_some] <;> rfl) | (simp [*, errW_none, errW_some] <;> rfl), by repeat (first | (with_reducible first | exact HB.out | apply b1_ | apply b2_ | apply b3_ | refine b4_ ?_ GE200.out) | exact HB.out)⟩
                       · rw [if_neg c16] at H
                         exact absurd H (by simp)
                     · rw [if_neg c15] at H
                       exact absurd H (by simp)
                   · rw [if_neg c14] at H
                     exact absurd H (by simp)
                 · rw [if_neg c13] at H
                   exact absurd H (by simp)
               · rw [if_neg c12] at H
                 have c12b0 : decide (x8_2 < a2) = false := decide_eq_false c12; clear c12; have H' := Aside0.mk H; clear H; go_wp2
                 go_roundg k2
                 case measure => have := HK1.out; have := HK2.out; omega
                 case rel => exact ⟨(wrap64 (x7_1 + 1)), (by first | rfl | (simp; done) | (simp [*]; done)), H', ⟨by have := HK1.out; have := HK2.out; omega⟩, ⟨by (with_reducible repeat (first | apply d1_ | apply d2_ | apply d3_)); exact BK200.out⟩, ⟨by repeat (first | (with_reducible first | exact HB.out | apply b1_ | apply b2_ | apply b3_ | refine b4_ ?_ GE200.out) | exact HB.out)⟩⟩
           · rw [if_neg c10] at H
             have c10b0 : (((rd_L6 l0_0 x7_1).length : Int) == a2) = false := beq_eq_false_iff_ne.mpr c10; have c10b1 : (((rd_L6 l0_0 x7_1).length : Int) != a2) = true := bne_iff_ne.mpr c10; obtain rfl := Option.some.inj H; have Zz21 := blk1 BK200.out; have p201 : 0 ≤ (x7_1 : Int) := of_decide_eq_true (by first | (with_reducible assumption) | assumption); have q201 : x7_1 < (l0_0.length : Int) := of_decide_eq_true (by first | (with_reducible assumption) | assumption); obtain ⟨ad201, A201_0, c201_0, e201, hx201_0, hl201_0, hi201_0⟩ := at_L6 HR0_0.out x7_1 p201 q201
             cases e201
             replace hx201_0 := (HB.out.cell (World.block_lt_of_cell? w _ hx201_0)).trans hx201_0; have HR201_0 := Aside0.mk hi201_0; have HC201_0 := Aside0.mk hl201_0; clear hi201_0 hl201_0; replace p201 := eq_true p201; replace q201 := eq_true q201; go_wp2
             go_ret
             exact ⟨by first | rfl | (simp [errW_none, errW_some] <;> rfl) | (simp [*, errW_none, errW_some] <;> rfl), by repeat (first | (with_reducible first | exact HB.out | apply b1_ | apply b2_ | apply b3_ | refine b4_ ?_ GE200.out) | exact HB.out)⟩
         · rw [if_neg c9] at H
           exact absurd H (by simp)
       · rw [if_neg c8] at H
         exact absurd H (by simp)
     · rw [if_neg c7] at H
       have c7b0 : decide (x7_1 < a1) = false := decide_eq_false c7; clear c7; obtain rfl := Option.some.inj H; go_wp2
       go_ret
       exact ⟨by first | rfl | (simp [errW_none, errW_some] <;> rfl) | (simp [*, errW_none, errW_some] <;> rfl), by repeat (first | (with_reducible first | exact HB.out | apply b1_ | apply b2_ | apply b3_ | refine b4_ ?_ GE200.out) | exact HB.out)⟩
 · rw [if_neg c4] at H
   have c4b0 : ((l0_0.length : Int) == a1) = false := beq_eq_false_iff_ne.mpr c4; have c4b1 : ((l0_0.length : Int) != a1) = true := bne_iff_ne.mpr c4; obtain rfl := Option.some.inj H
   go_enter Try.func17, Try.ntmps17
   go_wp2_with (first | ((with_reducible refine gate_dst (N := 3) rfl ?_); refine box_event ?hg (N := 3) ?hd (cs := #[.slice A0_0 l0_0.length c0_0]) (t := 29) ?hr ?_; (case hd => rfl); (case hg => rfl); (case hr => first | (go_simp; done) | (go_simp; rfl)); intro gb200 hg w22 hbox hb; have n0_ := Aside0.mk (below_step (by repeat (first | (with_reducible first | exact HB.out | apply b1_ | apply b2_ | apply b3_) | exact HB.out)) hb); have n1_ := Aside0.mk (hbox); have n2_ := Aside0.mk ((by rw [hg]; exact (below_size (by repeat (first | (with_reducible first | exact HB.out | apply b1_ | apply b2_ | apply b3_) | exact HB.out))) : w.heap.size ≤ gb200)); have n3_ := Aside0.mk ((by rw [hg]; exact (below_size (by repeat (first | (with_reducible first | exact HB.out | apply b1_ | apply b2_ | apply b3_) | exact HB.out))) : w.heap.size ≤ gb200)); clear HB; have HB := n0_; have BK200 := n1_; have GW200 := n2_; have GE200 := n3_; clear n0_ n1_ n2_ n3_; clear hb hbox hg; have Zz23 := blk1 BK200.out))
   go_ret
   exact ⟨by first | rfl | (simp [errW_none, errW_some] <;> rfl) | (simp [*, errW_none, errW_some] <;> rfl), by repeat (first | (with_reducible first | exact HB.out | apply b1_ | apply b2_ | apply b3_ | refine b4_ ?_ GE200.out) | exact HB.out)⟩

end Go.Proofs.Ytcfagmdopkginaa.PF
