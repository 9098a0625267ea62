-- written by a program of this session (print.sh turned)
import Derived.Test.YtcfagmdopkginaaPFx0
import Derived.Test.YtcfagmdopkginaaPFx31
import Derived.Test.YtcfagmdopkginaaPFx32
import Derived.Test.YtcfagmdopkginaaPFx33
namespace Go.Proofs.Ytcfagmdopkginaa.PF
open Go.RowKit Go.Proofs.YtcfagmdopkginaaW.PrintWords Go.Proofs.YtcfagmdopkginaaW.PrintLast Go.Proofs.YtcfagmdopkginaaW.PrintMore
attribute [local go_sem] max2_int min2_int max_two min_two max_three min_three max_four min_four   -- for this text's walks alone
set_option linter.unusedVariables false
set_option linter.unusedSimpArgs false

/-! ### seedcornref01_Apply: function 38 -/
mutual
def seedcornref01_Apply.j0 : Nat → Int → Int → Int → Int → Bool → Option (Int × Int)
 | 0, _, _, _, _, _ => none
 | k + 1, x0, x1, x2, x14, x53 => if x53 = true then ((seedcornref01_both.f k x0 x1 x2).bind fun t382 => (some (t382, 0))) else (if x14 = 12 then (seedcornref01_Apply.j1 k x0 x1 x2 x14 (x14 == 12)) else (seedcornref01_Apply.j1 k x0 x1 x2 x14 (x14 == 13)))
def seedcornref01_Apply.j1 : Nat → Int → Int → Int → Int → Bool → Option (Int × Int)
 | 0, _, _, _, _, _ => none
 | k + 1, x0, x1, x2, x14, x61 => if x61 = true then ((seedcornref01_shift.f k x0 x1 x2).bind fun t383 => (some (t383, 0))) else (if x14 = 14 then ((seedcornref01_flag.f (decide (x1 < x2))).bind fun t384 => (some (t384, 0))) else (if x14 = 15 then ((seedcornref01_flag.f (x1 == x2)).bind fun t385 => (some (t385, 0))) else (some (0, 1))))
end
def seedcornref01_Apply.f (k : Nat) (a0 : Int) (a1 : Int) (a2 : Int) : Option (Int × Int) := if a0 = 4 then (some ((Int.tmod (IntKind.u64.wrap ((IntKind.u64.wrap (a1)) + (IntKind.u64.wrap (a2)))) 4294967296) % 4294967296, 0)) else (if a0 = 5 then (some ((Int.tmod (IntKind.u64.wrap ((IntKind.u64.wrap ((IntKind.u64.wrap (a1)) + 4294967296)) - (IntKind.u64.wrap (a2)))) 4294967296) % 4294967296, 0)) else (if a0 = 6 then (some ((Int.tmod (IntKind.u64.wrap ((IntKind.u64.wrap (a1)) * (IntKind.u64.wrap (a2)))) 4294967296) % 4294967296, 0)) else (if a0 = 7 then (if a2 = 0 then (some (0, 14)) else (if (IntKind.u64.wrap (a2)) = 0 then (none) else (some ((IntKind.u64.wrap (Int.tdiv (IntKind.u64.wrap (a1)) (IntKind.u64.wrap (a2)))) % 4294967296, 0)))) else (if a0 = 8 then (if a2 = 0 then (some (0, 14)) else (if (IntKind.u64.wrap (a2)) = 0 then (none) else (some ((Int.tmod (IntKind.u64.wrap (a1)) (IntKind.u64.wrap (a2))) % 4294967296, 0)))) else (if a0 = 9 then (seedcornref01_Apply.j0 k a0 a1 a2 a0 (a0 == 9)) else (if a0 = 10 then (seedcornref01_Apply.j0 k a0 a1 a2 a0 (a0 == 10)) else (seedcornref01_Apply.j0 k a0 a1 a2 a0 (a0 == 11))))))))
set_option maxHeartbeats 40000000 in
set_option maxRecDepth 100000 in
theorem seedcornref01_Apply.calls (k : Nat) (a0 : Int) (a1 : Int) (a2 : Int) (r1 : Int) (r2 : Int) (w : World) (h : seedcornref01_Apply.f k a0 a1 a2 = some (r1, r2)) :
 Calls Try.prog 38 #[.int .i64 a0, .int .u32 a1, .int .u32 a2] w fun e w' => e = .returned (.tuple #[.int .u32 r1, .int .i64 r2]) ∧ Below w.heap.size w w' := by
 have HB := Aside0.mk (Below.refl w.heap.size w); have H : (if a0 = 4 then (some ((Int.tmod (IntKind.u64.wrap ((IntKind.u64.wrap (a1)) + (IntKind.u64.wrap (a2)))) 4294967296) % 4294967296, 0)) else (if a0 = 5 then (some ((Int.tmod (IntKind.u64.wrap ((IntKind.u64.wrap ((IntKind.u64.wrap (a1)) + 4294967296)) - (IntKind.u64.wrap (a2)))) 4294967296) % 4294967296, 0)) else (if a0 = 6 then (some ((Int.tmod (IntKind.u64.wrap ((IntKind.u64.wrap (a1)) * (IntKind.u64.wrap (a2)))) 4294967296) % 4294967296, 0)) else (if a0 = 7 then (if a2 = 0 then (some (0, 14)) else (if (IntKind.u64.wrap (a2)) = 0 then (none) else (some ((IntKind.u64.wrap (Int.tdiv (IntKind.u64.wrap (a1)) (IntKind.u64.wrap (a2)))) % 4294967296, 0)))) else (if a0 = 8 then (if a2 = 0 then (some (0, 14)) else (if (IntKind.u64.wrap (a2)) = 0 then (none) else (some ((Int.tmod (IntKind.u64.wrap (a1)) (IntKind.u64.wrap (a2))) % 4294967296, 0)))) else (if a0 = 9 then (seedcornref01_Apply.j0 k a0 a1 a2 a0 (a0 == 9)) else (if a0 = 10 then (seedcornref01_Apply.j0 k a0 a1 a2 a0 (a0 == 10)) else (seedcornref01_Apply.j0 k a0 a1 a2 a0 (a0 == 11))))))))) = some (r1, r2) := h; clear h
 by_cases c4 : a0 = 4
 · rw [if_pos c4] at H
   have c4b0 : (a0 == 4) = true := beq_iff_eq.mpr c4; have c4b1 : (a0 != 4) = false := bne_eq_false_iff_eq.mpr c4; clear c4; (simp only [Option.some.injEq, Prod.mk.injEq] at H); obtain ⟨rfl, rfl⟩ := H
   go_enter Try.func38, Try.ntmps38
   go_wp2
   go_ret2
   exact ⟨by first | rfl | (simp [errW_none, errW_some] <;> rfl) | (simp [*, errW_none, errW_some] <;> rfl), by repeat (first | (with_reducible first | exact HB.out | apply b1_ | apply b2_ | apply b3_) | exact HB.out)⟩
 · rw [if_neg c4] at H
   have c4b0 : (a0 == 4) = false := beq_eq_false_iff_ne.mpr c4; have c4b1 : (a0 != 4) = true := bne_iff_ne.mpr c4
   by_cases c5 : a0 = 5
   · rw [if_pos c5] at H
     have c5b0 : (a0 == 5) = true := beq_iff_eq.mpr c5; have c5b1 : (a0 != 5) = false := bne_eq_false_iff_eq.mpr c5; clear c5; (simp only [Option.some.injEq, Prod.mk.injEq] at H); obtain ⟨rfl, rfl⟩ := H
     go_enter Try.func38, Try.ntmps38
     go_wp2
     go_ret2
     exact ⟨by first | rfl | (simp [errW_none, errW_some] <;> rfl) | (simp [*, errW_none, errW_some] <;> rfl), by repeat (first | (with_reducible first | exact HB.out | apply b1_ | apply b2_ | apply b3_) | exact HB.out)⟩
   · rw [if_neg c5] at H
     have c5b0 : (a0 == 5) = false := beq_eq_false_iff_ne.mpr c5; have c5b1 : (a0 != 5) = true := bne_iff_ne.mpr c5
     by_cases c6 : a0 = 6
     · rw [if_pos c6] at H
       have c6b0 : (a0 == 6) = true := beq_iff_eq.mpr c6; have c6b1 : (a0 != 6) = false := bne_eq_false_iff_eq.mpr c6; clear c6; (simp only [Option.some.injEq, Prod.mk.injEq] at H); obtain ⟨rfl, rfl⟩ := H
       go_enter Try.func38, Try.ntmps38
       go_wp2
       go_ret2
       exact ⟨by first | rfl | (simp [errW_none, errW_some] <;> rfl) | (simp [*, errW_none, errW_some] <;> rfl), by repeat (first | (with_reducible first | exact HB.out | apply b1_ | apply b2_ | apply b3_) | exact HB.out)⟩
     · rw [if_neg c6] at H
       have c6b0 : (a0 == 6) = false := beq_eq_false_iff_ne.mpr c6; have c6b1 : (a0 != 6) = true := bne_iff_ne.mpr c6
       by_cases c7 : a0 = 7
       · rw [if_pos c7] at H
         have c7b0 : (a0 == 7) = true := beq_iff_eq.mpr c7; have c7b1 : (a0 != 7) = false := bne_eq_false_iff_eq.mpr c7; clear c7
         by_cases c8 : a2 = 0
         · rw [if_pos c8] at H
           have c8b0 : (a2 == 0) = true := beq_iff_eq.mpr c8; have c8b1 : (a2 != 0) = false := bne_eq_false_iff_eq.mpr c8; clear c8; (simp only [Option.some.injEq, Prod.mk.injEq] at H); obtain ⟨rfl, rfl⟩ := H
           go_enter Try.func38, Try.ntmps38
           go_wp2
           go_ret2
           exact ⟨by first | rfl | (simp [errW_none, errW_some] <;> rfl) | (simp [*, errW_none, errW_some] <;> rfl), by repeat (first | (with_reducible first | exact HB.out | apply b1_ | apply b2_ | apply b3_) | exact HB.out)⟩
         · rw [if_neg c8] at H
           have c8b0 : (a2 == 0) = false := beq_eq_false_iff_ne.mpr c8; have c8b1 : (a2 != 0) = true := bne_iff_ne.mpr c8
           by_cases c9 : (IntKind.u64.wrap (a2)) = 0
           · rw [if_pos c9] at H
             exact absurd H (by simp)
           · rw [if_neg c9] at H
             have c9b0 : ((IntKind.u64.wrap (a2)) == 0) = false := beq_eq_false_iff_ne.mpr c9; have c9b1 : ((IntKind.u64.wrap (a2)) != 0) = true := bne_iff_ne.mpr c9; (simp only [Option.some.injEq, Prod.mk.injEq] at H); obtain ⟨rfl, rfl⟩ := H
             go_enter Try.func38, Try.ntmps38
             go_wp2
             go_ret2
             exact ⟨by first | rfl | (simp [errW_none, errW_some] <;> rfl) | (simp [*, errW_none, errW_some] <;> rfl), by repeat (first | (with_reducible first | exact HB.out | apply b1_ | apply b2_ | apply b3_) | exact HB.out)⟩
       · rw [if_neg c7] at H
         have c7b0 : (a0 == 7) = false := beq_eq_false_iff_ne.mpr c7; have c7b1 : (a0 != 7) = true := bne_iff_ne.mpr c7
         by_cases c10 : a0 = 8
         · rw [if_pos c10] at H
           have c10b0 : (a0 == 8) = true := beq_iff_eq.mpr c10; have c10b1 : (a0 != 8) = false := bne_eq_false_iff_eq.mpr c10; clear c10
           by_cases c11 : a2 = 0
           · rw [if_pos c11] at H
             have c11b0 : (a2 == 0) = true := beq_iff_eq.mpr c11; have c11b1 : (a2 != 0) = false := bne_eq_false_iff_eq.mpr c11; clear c11; (simp only [Option.some.injEq, Prod.mk.injEq] at H); obtain ⟨rfl, rfl⟩ := H
             go_enter Try.func38, Try.ntmps38
             go_wp2
             go_ret2
             exact ⟨by first | rfl | (simp [errW_none, errW_some] <;> rfl) | (simp [*, errW_none, errW_some] <;> rfl), by repeat (first | (with_reducible first | exact HB.out | apply b1_ | apply b2_ | apply b3_) | exact HB.out)⟩
           · rw [if_neg c11] at H
             have c11b0 : (a2 == 0) = false := beq_eq_false_iff_ne.mpr c11; have c11b1 : (a2 != 0) = true := bne_iff_ne.mpr c11
             by_cases c12 : (IntKind.u64.wrap (a2)) = 0
             · rw [if_pos c12] at H
               exact absurd H (by simp)
             · rw [if_neg c12] at H
               have c12b0 : ((IntKind.u64.wrap (a2)) == 0) = false := beq_eq_false_iff_ne.mpr c12; have c12b1 : ((IntKind.u64.wrap (a2)) != 0) = true := bne_iff_ne.mpr c12; (simp only [Option.some.injEq, Prod.mk.injEq] at H); obtain ⟨rfl, rfl⟩ := H
               go_enter Try.func38, Try.ntmps38
               go_wp2
               go_ret2
               exact ⟨by first | rfl | (simp [errW_none, errW_some] <;> rfl) | (simp [*, errW_none, errW_some] <;> rfl), by repeat (first | (with_reducible first | exact HB.out | apply b1_ | apply b2_ | apply b3_) | exact HB.out)⟩
         · rw [if_neg c10] at H
           have c10b0 : (a0 == 8) = false := beq_eq_false_iff_ne.mpr c10; have c10b1 : (a0 != 8) = true := bne_iff_ne.mpr c10; have HC13 := Aside0.mk H; clear H
           go_enter Try.func38, Try.ntmps38
           go_upto_if 53 with (fail)
           go_cut [53] (fun v53 wc => ∃ (kq : Nat) (x53_12 : Bool), v53 = .bool x53_12 ∧ Aside0 (seedcornref01_Apply.j0 kq a0 a1 a2 a0 x53_12 = some (r1, r2)) ∧ Aside0 (kq ≤ k) ∧ Aside0 (Below w.heap.size w wc))
           case first =>
            have H := HC13.out; clear HC13
            by_cases c14 : a0 = 9
            · rw [if_pos c14] at H
              have c14b0 : (a0 == 9) = true := beq_iff_eq.mpr c14; have c14b1 : (a0 != 9) = false := bne_eq_false_iff_eq.mpr c14; clear c14; (first | rw [c14b0] | rw [c14b1] | (simp only [i64_w, i32_w]; rw [c14b0]) | skip); have H' := Aside0.mk H; clear H; go_wp2
              go_meet
              case rel => exact ⟨_, ((a0 == 9)), (by first | rfl | (simp; done) | (simp [*]; done)), H', ⟨by first | omega | exact Nat.le_refl _⟩, ⟨by repeat (first | (with_reducible first | exact HB.out | apply b1_ | apply b2_ | apply b3_) | exact HB.out)⟩⟩
            · rw [if_neg c14] at H
              have c14b0 : (a0 == 9) = false := beq_eq_false_iff_ne.mpr c14; have c14b1 : (a0 != 9) = true := bne_iff_ne.mpr c14; (first | rw [c14b0] | rw [c14b1] | (simp only [i64_w, i32_w]; rw [c14b0]) | skip)
              by_cases c15 : a0 = 10
              · rw [if_pos c15] at H
                have c15b0 : (a0 == 10) = true := beq_iff_eq.mpr c15; have c15b1 : (a0 != 10) = false := bne_eq_false_iff_eq.mpr c15; clear c15; have H' := Aside0.mk H; clear H; go_wp2
                go_meet
                case rel => exact ⟨_, ((a0 == 10)), (by first | rfl | (simp; done) | (simp [*]; done)), H', ⟨by first | omega | exact Nat.le_refl _⟩, ⟨by repeat (first | (with_reducible first | exact HB.out | apply b1_ | apply b2_ | apply b3_) | exact HB.out)⟩⟩
              · rw [if_neg c15] at H
                have c15b0 : (a0 == 10) = false := beq_eq_false_iff_ne.mpr c15; have c15b1 : (a0 != 10) = true := bne_iff_ne.mpr c15; have H' := Aside0.mk H; clear H; go_wp2
                go_meet
                case rel => exact ⟨_, ((a0 == 11)), (by first | rfl | (simp; done) | (simp [*]; done)), H', ⟨by first | omega | exact Nat.le_refl _⟩, ⟨by repeat (first | (with_reducible first | exact HB.out | apply b1_ | apply b2_ | apply b3_) | exact HB.out)⟩⟩
           case rest =>
            clear HC13; (try clear c1); (try clear p2); (try clear c3); (try clear c4); (try clear c4b0); (try clear c4b1); (try clear c5); (try clear c5b0); (try clear c5b1); (try clear c6); (try clear c6b0); (try clear c6b1); (try clear c7); (try clear c7b0); (try clear c7b1); (try clear c8); (try clear c8b0); (try clear c8b1); (try clear c9); (try clear c9b0); (try clear c9b1); (try clear c10); (try clear c10b0); (try clear c10b1); (try clear c11); (try clear c11b0); (try clear c11b1); (try clear c12); (try clear c12b0); (try clear c12b1); (try clear c14); (try clear c14b0); (try clear c14b1); (try clear c15); (try clear c15b0); (try clear c15b1); obtain ⟨kq, x53_12, rfl, HA, HJ12, HB⟩ := hcut
            cases kq with
            | zero => exact absurd HA.out (by simp [seedcornref01_Apply.j0])
            | succ kj12 =>
             have H := HA.out; clear HA; (simp only [seedcornref01_Apply.j0] at H)
             by_cases c16 : x53_12 = true
             · subst c16
               (have H1 : ((seedcornref01_both.f kj12 a0 a1 a2).bind fun t382 => (some (t382, 0))) = some (r1, r2) := by rw [if_pos rfl] at H; exact H); clear H; have H := H1; clear H1; replace H := Option.bind_eq_some_iff.mp H; obtain ⟨t382, A170, H⟩ := H; replace H : (some (t382, 0)) = some (r1, r2) := H; have A17 := Aside0.mk A170; clear A170; (simp only [Option.some.injEq, Prod.mk.injEq] at H); obtain ⟨rfl, rfl⟩ := H
               go_wp2_with (first | ((with_reducible refine gate_callee (f := 39) rfl ?_); refine goesL_ (some 60) rfl rfl Try.func39 (by kernel_rfl) rfl #[.int .i64 a0, .int .u32 a1, .int .u32 a2] rfl (by (try simp only [List.map_toArray, List.map_cons, List.map_nil]); first | done | rfl | (simp only [List.length_drop, List.length_take]; rfl)) ?_; (with_reducible refine (seedcornref01_both.calls kj12 a0 a1 a2 t382 _ A17.out).mono ?_); rintro e w18 ⟨rfl, hb⟩; refine ⟨_, rfl, ?_⟩; have n0_ := Aside0.mk (below_step (by repeat (first | (with_reducible first | exact HB.out | apply b1_ | apply b2_ | apply b3_) | exact HB.out)) hb); clear HB; have HB := n0_; clear n0_; (try clear hb); (try clear hb2); (try clear hk); (try clear hi)))
               go_ret2
               exact ⟨by first | rfl | (simp [errW_none, errW_some] <;> rfl) | (simp [*, errW_none, errW_some] <;> rfl), by repeat (first | (with_reducible first | exact HB.out | apply b1_ | apply b2_ | apply b3_) | exact HB.out)⟩
             · replace c16 := Bool.eq_false_iff.mpr c16
               subst c16; (have H1 : (if a0 = 12 then (seedcornref01_Apply.j1 kj12 a0 a1 a2 a0 (a0 == 12)) else (seedcornref01_Apply.j1 kj12 a0 a1 a2 a0 (a0 == 13))) = some (r1, r2) := by rw [if_neg (show ¬ (false = true) by decide)] at H; exact H); clear H; have H := H1; clear H1; have HC19 := Aside0.mk H; clear H
               go_upto_if 61 with (fail)
               go_cut [61] (fun v61 wc => ∃ (kq : Nat) (x61_18 : Bool), v61 = .bool x61_18 ∧ Aside0 (seedcornref01_Apply.j1 kq a0 a1 a2 a0 x61_18 = some (r1, r2)) ∧ Aside0 (kq ≤ kj12) ∧ Aside0 (Below w.heap.size w wc))
               case first =>
                have H := HC19.out; clear HC19
                by_cases c20 : a0 = 12
                · rw [if_pos c20] at H
                  have c20b0 : (a0 == 12) = true := beq_iff_eq.mpr c20; have c20b1 : (a0 != 12) = false := bne_eq_false_iff_eq.mpr c20; clear c20; (first | rw [c20b0] | rw [c20b1] | (simp only [i64_w, i32_w]; rw [c20b0]) | skip); have H' := Aside0.mk H; clear H; go_wp2
                  go_meet
                  case rel => exact ⟨_, ((a0 == 12)), (by first | rfl | (simp; done) | (simp [*]; done)), H', ⟨by have := HJ12.out; first | omega | exact Nat.le_refl _⟩, ⟨by repeat (first | (with_reducible first | exact HB.out | apply b1_ | apply b2_ | apply b3_) | exact HB.out)⟩⟩
                · rw [if_neg c20] at H
                  have c20b0 : (a0 == 12) = false := beq_eq_false_iff_ne.mpr c20; have c20b1 : (a0 != 12) = true := bne_iff_ne.mpr c20; (first | rw [c20b0] | rw [c20b1] | (simp only [i64_w, i32_w]; rw [c20b0]) | skip); have H' := Aside0.mk H; clear H; go_wp2
                  go_meet
                  case rel => exact ⟨_, ((a0 == 13)), (by first | rfl | (simp; done) | (simp [*]; done)), H', ⟨by have := HJ12.out; first | omega | exact Nat.le_refl _⟩, ⟨by repeat (first | (with_reducible first | exact HB.out | apply b1_ | apply b2_ | apply b3_) | exact HB.out)⟩⟩
               case rest =>
                clear HC19; (try clear c1); (try clear c2); (try clear p2); (try clear c3); (try clear c4); (try clear c4b0); (try clear c4b1); (try clear c5); (try clear c5b0); (try clear c5b1); (try clear c6); (try clear c6b0); (try clear c6b1); (try clear c7); (try clear c7b0); (try clear c7b1); (try clear c8); (try clear c8b0); (try clear c8b1); (try clear c9); (try clear c9b0); (try clear c9b1); (try clear c10); (try clear c10b0); (try clear c10b1); (try clear c11); (try clear c11b0); (try clear c11b1); (try clear c12); (try clear c12b0); (try clear c12b1); (try clear c14); (try clear c14b0); (try clear c14b1); (try clear c15); (try clear c15b0); (try clear c15b1); (try clear c16); (try clear c20); (try clear c20b0); (try clear c20b1); (try clear p2); obtain ⟨kq, x61_18, rfl, HA, HJ18, HB⟩ := hcut
                cases kq with
                | zero => exact absurd HA.out (by simp [seedcornref01_Apply.j1])
                | succ kj18 =>
                 have H := HA.out; clear HA; (simp only [seedcornref01_Apply.j1] at H)
                 by_cases c21 : x61_18 = true
                 · subst c21
                   (have H1 : ((seedcornref01_shift.f kj18 a0 a1 a2).bind fun t383 => (some (t383, 0))) = some (r1, r2) := by rw [if_pos rfl] at H; exact H); clear H; have H := H1; clear H1; replace H := Option.bind_eq_some_iff.mp H; obtain ⟨t383, A220, H⟩ := H; replace H : (some (t383, 0)) = some (r1, r2) := H; have A22 := Aside0.mk A220; clear A220; (simp only [Option.some.injEq, Prod.mk.injEq] at H); obtain ⟨rfl, rfl⟩ := H
                   go_wp2_with (first | ((with_reducible refine gate_callee (f := 40) rfl ?_); refine goesL_ (some 67) rfl rfl Try.func40 (by kernel_rfl) rfl #[.int .i64 a0, .int .u32 a1, .int .u32 a2] rfl (by (try simp only [List.map_toArray, List.map_cons, List.map_nil]); first | done | rfl | (simp only [List.length_drop, List.length_take]; rfl)) ?_; (with_reducible refine (seedcornref01_shift.calls kj18 a0 a1 a2 t383 _ A22.out).mono ?_); rintro e w' ⟨rfl, ⟨nd, rfl⟩⟩; refine ⟨_, rfl, ?_⟩))
                   go_ret2
                   exact ⟨by first | rfl | (simp [errW_none, errW_some] <;> rfl) | (simp [*, errW_none, errW_some] <;> rfl), by repeat (first | (with_reducible first | exact HB.out | apply b1_ | apply b2_ | apply b3_) | exact HB.out)⟩
                 · replace c21 := Bool.eq_false_iff.mpr c21
                   subst c21; (have H1 : (if a0 = 14 then ((seedcornref01_flag.f (decide (a1 < a2))).bind fun t384 => (some (t384, 0))) else (if a0 = 15 then ((seedcornref01_flag.f (a1 == a2)).bind fun t385 => (some (t385, 0))) else (some (0, 1)))) = some (r1, r2) := by rw [if_neg (show ¬ (false = true) by decide)] at H; exact H); clear H; have H := H1; clear H1
                   by_cases c23 : a0 = 14
                   · rw [if_pos c23] at H
                     have c23b0 : (a0 == 14) = true := beq_iff_eq.mpr c23; have c23b1 : (a0 != 14) = false := bne_eq_false_iff_eq.mpr c23; clear c23; replace H := Option.bind_eq_some_iff.mp H; obtain ⟨t384, A240, H⟩ := H; replace H : (some (t384, 0)) = some (r1, r2) := H; have A24 := Aside0.mk A240; clear A240; (simp only [Option.some.injEq, Prod.mk.injEq] at H); obtain ⟨rfl, rfl⟩ := H
                     go_wp2_with (first | ((with_reducible refine gate_callee (f := 41) rfl ?_); refine goesL_ (some 73) rfl rfl Try.func41 (by kernel_rfl) rfl #[.bool (decide (a1 < a2))] rfl (by (try simp only [List.map_toArray, List.map_cons, List.map_nil]); first | done | rfl | (simp only [List.length_drop, List.length_take]; rfl)) ?_; (with_reducible refine (seedcornref01_flag.calls (decide (a1 < a2)) t384 _ A24.out).mono ?_); rintro e w' ⟨rfl, ⟨nd, rfl⟩⟩; refine ⟨_, rfl, ?_⟩))
                     go_ret2
                     exact ⟨by first | rfl | (simp [errW_none, errW_some] <;> rfl) | (simp [*, errW_none, errW_some] <;> rfl), by repeat (first | (with_reducible first | exact HB.out | apply b1_ | apply b2_ | apply b3_) | exact HB.out)⟩
                   · rw [if_neg c23] at H
                     have c23b0 : (a0 == 14) = false := beq_eq_false_iff_ne.mpr c23; have c23b1 : (a0 != 14) = true := bne_iff_ne.mpr c23
                     by_cases c25 : a0 = 15
                     · rw [if_pos c25] at H
                       have c25b0 : (a0 == 15) = true := beq_iff_eq.mpr c25; have c25b1 : (a0 != 15) = false := bne_eq_false_iff_eq.mpr c25; clear c25; replace H := Option.bind_eq_some_iff.mp H; obtain ⟨t385, A260, H⟩ := H; replace H : (some (t385, 0)) = some (r1, r2) := H; have A26 := Aside0.mk A260; clear A260; (simp only [Option.some.injEq, Prod.mk.injEq] at H); obtain ⟨rfl, rfl⟩ := H
                       go_wp2_with (first | ((with_reducible refine gate_callee (f := 41) rfl ?_); refine goesL_ (some 79) rfl rfl Try.func41 (by kernel_rfl) rfl #[.bool (a1 == a2)] rfl (by (try simp only [List.map_toArray, List.map_cons, List.map_nil]); first | done | rfl | (simp only [List.length_drop, List.length_take]; rfl)) ?_; (with_reducible refine (seedcornref01_flag.calls (a1 == a2) t385 _ A26.out).mono ?_); rintro e w' ⟨rfl, ⟨nd, rfl⟩⟩; refine ⟨_, rfl, ?_⟩))
                       go_ret2
                       exact ⟨by first | rfl | (simp [errW_none, errW_some] <;> rfl) | (simp [*, errW_none, errW_some] <;> rfl), by repeat (first | (with_reducible first | exact HB.out | apply b1_ | apply b2_ | apply b3_) | exact HB.out)⟩
                     · rw [if_neg c25] at H
                       have c25b0 : (a0 == 15) = false := beq_eq_false_iff_ne.mpr c25; have c25b1 : (a0 != 15) = true := bne_iff_ne.mpr c25; (simp only [Option.some.injEq, Prod.mk.injEq] at H); obtain ⟨rfl, rfl⟩ := H; go_wp2
                       go_ret2
                       exact ⟨by first | rfl | (simp [errW_none, errW_some] <;> rfl) | (simp [*, errW_none, errW_some] <;> rfl), by repeat (first | (with_reducible first | exact HB.out | apply b1_ | apply b2_ | apply b3_) | exact HB.out)⟩

end Go.Proofs.Ytcfagmdopkginaa.PF
