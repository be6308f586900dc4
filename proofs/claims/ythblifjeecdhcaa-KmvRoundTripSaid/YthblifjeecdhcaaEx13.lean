/- Printed by a program of this session: functions of the law's Go code as Lean functions, and that the Go code computes them. No condition beyond those in the statements. -/
import Derived.Test.YthblifjeecdhcaaEx0
namespace Go.Proofs.Ythblifjeecdhcaa.E
open Go.RowKit Go.Proofs.YthblifjeecdhcaaW.PrintWords Go.Proofs.YthblifjeecdhcaaW.PrintLast Go.Proofs.YthblifjeecdhcaaW.PrintMore Go.Proofs.Ythblifjeecdhcaa.Hand Go.Proofs.Ythblifjeecdhcaa.A Go.Proofs.Ythblifjeecdhcaa.P Go.Proofs.Ythblifjeecdhcaa.B
attribute [local go_sem] max2_int min2_int max_two min_two max_three min_three max_four min_four   -- for this text's walks alone
set_option linter.unusedVariables false
set_option linter.unusedSimpArgs false

/-! ### lookoutref01_get: function 63 -/
mutual
def lookoutref01_get.l0 : Nat → ByteArray → Int → Int → Option (Int × Int × Int)
  | 0, _, _, _ => none
  | k + 1, x0, x5, x6 => if x6 ≥ (x0.size : Int) then (some (0, 0, 11)) else (if 0 ≤ x6 then (if x6 < (x0.size : Int) then (if x6 = 8 then (lookoutref01_get.j1 k x0 x5 x6 (wrap64 (bt x0 x6)) (decide ((wrap64 (bt x0 x6)) ≥ 128))) else (lookoutref01_get.j1 k x0 x5 x6 (wrap64 (bt x0 x6)) false)) else (none)) else (none))
def lookoutref01_get.j1 : Nat → ByteArray → Int → Int → Int → Bool → Option (Int × Int × Int)
  | 0, _, _, _, _, _ => none
  | k + 1, x0, x5, x6, x7, x23 => if x23 = true then (some (0, 0, 12)) else (if 0 ≤ (wrap64 (7 * x6)) then (if x7 ≥ 128 then (lookoutref01_get.l0 k x0 (wrap64 (x5 + (shl .i64 (Int.tmod x7 128) (wrap64 (7 * x6))))) (wrap64 (x6 + 1))) else (if x6 > 0 then (if x7 = 0 then (some (0, 0, 12)) else (if (wrap64 (x5 + (shl .i64 (Int.tmod x7 128) (wrap64 (7 * x6))))) > 2305843009213693952 then (some (0, 0, 12)) else (some (wrap64 (x5 + (shl .i64 (Int.tmod x7 128) (wrap64 (7 * x6)))), wrap64 (x6 + 1), 0)))) else (if (wrap64 (x5 + (shl .i64 (Int.tmod x7 128) (wrap64 (7 * x6))))) > 2305843009213693952 then (some (0, 0, 12)) else (some (wrap64 (x5 + (shl .i64 (Int.tmod x7 128) (wrap64 (7 * x6)))), wrap64 (x6 + 1), 0))))) else (none))
end
def lookoutref01_get.f (k : Nat) (a0 : ByteArray) : Option (Int × Int × Int) := lookoutref01_get.l0 k a0 0 0
theorem lookoutref01_get.mono_l : ∀ k, (∀ y0 y1 y2, LeO (lookoutref01_get.l0 k y0 y1 y2) (lookoutref01_get.l0 (k + 1) y0 y1 y2)) ∧ (∀ y0 y1 y2 y3 y4, LeO (lookoutref01_get.j1 k y0 y1 y2 y3 y4) (lookoutref01_get.j1 (k + 1) y0 y1 y2 y3 y4))
  | 0 => ⟨fun _ _ _ r h => by simp [lookoutref01_get.l0] at h, fun _ _ _ _ _ r h => by simp [lookoutref01_get.j1] at h⟩
  | k + 1 => by
    obtain ⟨ih0, ih1⟩ := lookoutref01_get.mono_l k
    refine ⟨?_, ?_⟩
    · intro y0 y1 y2
      unfold lookoutref01_get.l0
      repeat' first
      | (with_reducible exact ih0 _ _ _)
      | (with_reducible exact ih1 _ _ _ _ _)
      | (with_reducible exact LeO.refl _)
      | (with_reducible exact LeO.none _)
      | (with_reducible refine LeO.ite ?_ ?_)
      | (with_reducible refine LeO.bind ?_ (fun _ => ?_))
      | exact ih0 _ _ _
      | exact ih1 _ _ _ _ _
      | exact LeO.none _
      | refine LeO.ite ?_ ?_
      | refine LeO.bind ?_ (fun _ => ?_)
    · intro y0 y1 y2 y3 y4
      unfold lookoutref01_get.j1
      repeat' first
      | (with_reducible exact ih0 _ _ _)
      | (with_reducible exact ih1 _ _ _ _ _)
      | (with_reducible exact LeO.refl _)
      | (with_reducible exact LeO.none _)
      | (with_reducible refine LeO.ite ?_ ?_)
      | (with_reducible refine LeO.bind ?_ (fun _ => ?_))
      | exact ih0 _ _ _
      | exact ih1 _ _ _ _ _
      | exact LeO.none _
      | refine LeO.ite ?_ ?_
      | refine LeO.bind ?_ (fun _ => ?_)
theorem lookoutref01_get.mono : ∀ a0 k, LeO (lookoutref01_get.f k a0) (lookoutref01_get.f (k + 1) a0) := by
  intro a0 k
  obtain ⟨ih0, ih1⟩ := lookoutref01_get.mono_l k
  unfold lookoutref01_get.f
  repeat' first
      | (with_reducible exact ih0 _ _ _)
      | (with_reducible exact ih1 _ _ _ _ _)
      | (with_reducible exact LeO.refl _)
      | (with_reducible exact LeO.none _)
      | (with_reducible refine LeO.ite ?_ ?_)
      | (with_reducible refine LeO.bind ?_ (fun _ => ?_))
      | exact ih0 _ _ _
      | exact ih1 _ _ _ _ _
      | exact LeO.none _
      | refine LeO.ite ?_ ?_
      | refine LeO.bind ?_ (fun _ => ?_)
set_option maxHeartbeats 8000000 in
set_option maxRecDepth 100000 in
theorem lookoutref01_get.calls (k : Nat) (a0 : ByteArray) (r1 : Int) (r2 : Int) (r3 : Int) (w : World) (h : lookoutref01_get.f k a0 = some (r1, r2, r3)) :
    Calls Try.prog 63 #[.string a0] w fun e w' => e = .returned (.tuple #[.int .i64 r1, .int .i64 r2, .int .i64 r3]) ∧ Drawn0 w w' := by
  have H : (lookoutref01_get.l0 k a0 0 0) = some (r1, r2, r3) := h
  clear h
  have H' := Aside0.mk H
  clear H
  go_enter Try.func63, Try.ntmps63
  go_wp2
  go_loopg [5, 6] k (fun kq v5 v6 w' => ∃ (x5_1 : Int) (x6_1 : Int), v5 = .int .i64 x5_1 ∧ v6 = .int .i64 x6_1 ∧ Aside0 (lookoutref01_get.l0 kq a0 x5_1 x6_1 = some (r1, r2, r3)) ∧ Aside0 (kq ≤ k) ∧ Drawn0 w w')
  case atStart => exact ⟨(0), (0), (by first | rfl | (simp; done) | (simp [*]; done)), (by first | rfl | (simp; done) | (simp [*]; done)), H', ⟨Nat.le_refl _⟩, by repeat (first | exact Drawn0.refl _ | apply Drawn0.step)⟩
  case round =>
    clear H'
    obtain ⟨x5_1, x6_1, rfl, rfl, HA, HK1, ⟨m1, rfl⟩⟩ := hrel
    cases gk with
    | zero => exact absurd HA.out (by simp [lookoutref01_get.l0])
    | succ k1 =>
      have H := HA.out
      clear HA
      simp only [lookoutref01_get.l0] at H
      by_cases c2 : x6_1 ≥ (a0.size : Int)
      · rw [if_pos c2] at H
        have c2b0 : decide ((a0.size : Int) ≤ x6_1) = true := decide_eq_true c2
        clear c2
        simp only [Option.some.injEq, Prod.mk.injEq] at H
        obtain ⟨rfl, rfl, rfl⟩ := H
        go_wp2
        go_ret3
        exact ⟨by first | rfl | (simp; done) | (simp [*]; done), by repeat (first | exact Drawn0.refl _ | apply Drawn0.step)⟩
      · rw [if_neg c2] at H
        have c2b0 : decide ((a0.size : Int) ≤ x6_1) = false := decide_eq_false c2
        clear c2
        by_cases c3 : 0 ≤ x6_1
        · rw [if_pos c3] at H
          have c3b0 : decide (0 ≤ x6_1) = true := decide_eq_true c3
          clear c3
          by_cases c4 : x6_1 < (a0.size : Int)
          · rw [if_pos c4] at H
            have c4b0 : decide (x6_1 < (a0.size : Int)) = true := decide_eq_true c4
            clear c4
            have HC6 := Aside0.mk H
            clear H
            have p5 : 0 ≤ (x6_1 : Int) := of_decide_eq_true (by first | (with_reducible assumption) | assumption)
            have q5 : x6_1 < (a0.size : Int) := of_decide_eq_true (by first | (with_reducible assumption) | assumption)
            have hx5 := bt_at a0 x6_1
            replace p5 := eq_true p5
            replace q5 := eq_true q5
            go_upto_region 7 with (fail)
            go_cut [23] (fun v23 wc => ∃ (kq : Nat) (x23_5 : Bool), v23 = .bool x23_5 ∧ Aside0 (lookoutref01_get.j1 kq a0 x5_1 x6_1 (wrap64 (bt a0 x6_1)) x23_5 = some (r1, r2, r3)) ∧ Aside0 (kq ≤ k1) ∧ Drawn0 w wc)
            case first =>
              have H := HC6.out
              clear HC6
              by_cases c7 : x6_1 = 8
              · rw [if_pos c7] at H
                have c7b0 : (x6_1 == 8) = true := beq_iff_eq.mpr c7
                have c7b1 : (x6_1 != 8) = false := bne_eq_false_iff_eq.mpr c7
                clear c7
                (first | rw [c7b0] | (simp only [i64_w, i32_w]; rw [c7b0]) | rw [c7b1] | (simp only [i64_w, i32_w]; rw [c7b1]) | skip)
                have H' := Aside0.mk H
                clear H
                go_wp2
                go_meet
                case rel => exact ⟨_, (decide ((wrap64 (bt a0 x6_1)) ≥ 128)), (by first | rfl | (simp; done) | (simp [*]; done)), H', ⟨by have := HK1.out; first | omega | exact Nat.le_refl _⟩, by repeat (first | exact Drawn0.refl _ | apply Drawn0.step)⟩
              · rw [if_neg c7] at H
                have c7b0 : (x6_1 == 8) = false := beq_eq_false_iff_ne.mpr c7
                have c7b1 : (x6_1 != 8) = true := bne_iff_ne.mpr c7
                (first | rw [c7b0] | (simp only [i64_w, i32_w]; rw [c7b0]) | rw [c7b1] | (simp only [i64_w, i32_w]; rw [c7b1]) | skip)
                have H' := Aside0.mk H
                clear H
                go_wp2
                go_meet
                case rel => exact ⟨_, (false), (by first | rfl | (simp; done) | (simp [*]; done)), H', ⟨by have := HK1.out; first | omega | exact Nat.le_refl _⟩, by repeat (first | exact Drawn0.refl _ | apply Drawn0.step)⟩
            case rest =>
              clear HC6
              try clear c2
              try clear c2b0
              try clear p2
              try clear c3
              try clear c3b0
              try clear c4
              try clear c4b0
              try clear p5
              try clear q5
              try clear hx5
              try clear c6
              try clear p6
              try clear c7
              try clear c7b0
              try clear c7b1
              try clear p5
              try clear q5
              obtain ⟨kq, x23_5, rfl, HA, HJ5, ⟨mc5, rfl⟩⟩ := hcut
              cases kq with
              | zero => exact absurd HA.out (by simp [lookoutref01_get.j1])
              | succ kj5 =>
                have H := HA.out
                clear HA
                simp only [lookoutref01_get.j1] at H
                by_cases c8 : x23_5 = true
                · subst c8
                  have H1 : (some (0, 0, 12)) = some (r1, r2, r3) := by rw [if_pos rfl] at H; exact H
                  clear H
                  have H := H1
                  clear H1
                  simp only [Option.some.injEq, Prod.mk.injEq] at H
                  obtain ⟨rfl, rfl, rfl⟩ := H
                  go_wp2
                  go_ret3
                  exact ⟨by first | rfl | (simp; done) | (simp [*]; done), by repeat (first | exact Drawn0.refl _ | apply Drawn0.step)⟩
                · replace c8 := Bool.eq_false_iff.mpr c8
                  subst c8
                  have H1 : (if 0 ≤ (wrap64 (7 * x6_1)) then (if (wrap64 (bt a0 x6_1)) ≥ 128 then (lookoutref01_get.l0 kj5 a0 (wrap64 (x5_1 + (shl .i64 (Int.tmod (wrap64 (bt a0 x6_1)) 128) (wrap64 (7 * x6_1))))) (wrap64 (x6_1 + 1))) else (if x6_1 > 0 then (if (wrap64 (bt a0 x6_1)) = 0 then (some (0, 0, 12)) else (if (wrap64 (x5_1 + (shl .i64 (Int.tmod (wrap64 (bt a0 x6_1)) 128) (wrap64 (7 * x6_1))))) > 2305843009213693952 then (some (0, 0, 12)) else (some (wrap64 (x5_1 + (shl .i64 (Int.tmod (wrap64 (bt a0 x6_1)) 128) (wrap64 (7 * x6_1)))), wrap64 (x6_1 + 1), 0)))) else (if (wrap64 (x5_1 + (shl .i64 (Int.tmod (wrap64 (bt a0 x6_1)) 128) (wrap64 (7 * x6_1))))) > 2305843009213693952 then (some (0, 0, 12)) else (some (wrap64 (x5_1 + (shl .i64 (Int.tmod (wrap64 (bt a0 x6_1)) 128) (wrap64 (7 * x6_1)))), wrap64 (x6_1 + 1), 0))))) else (none)) = some (r1, r2, r3) := by rw [if_neg (show ¬ (false = true) by decide)] at H; exact H
                  clear H
                  have H := H1
                  clear H1
                  obtain ⟨ji9, hji9⟩ : ∃ j_ : Int, (wrap64 (7 * x6_1)) = j_ := ⟨_, rfl⟩
                  replace H : (if 0 ≤ (ji9) then (if (wrap64 (bt a0 x6_1)) ≥ 128 then (lookoutref01_get.l0 kj5 a0 (wrap64 (x5_1 + (shl .i64 (Int.tmod (wrap64 (bt a0 x6_1)) 128) (ji9)))) (wrap64 (x6_1 + 1))) else (if x6_1 > 0 then (if (wrap64 (bt a0 x6_1)) = 0 then (some (0, 0, 12)) else (if (wrap64 (x5_1 + (shl .i64 (Int.tmod (wrap64 (bt a0 x6_1)) 128) (ji9)))) > 2305843009213693952 then (some (0, 0, 12)) else (some (wrap64 (x5_1 + (shl .i64 (Int.tmod (wrap64 (bt a0 x6_1)) 128) (ji9))), wrap64 (x6_1 + 1), 0)))) else (if (wrap64 (x5_1 + (shl .i64 (Int.tmod (wrap64 (bt a0 x6_1)) 128) (ji9)))) > 2305843009213693952 then (some (0, 0, 12)) else (some (wrap64 (x5_1 + (shl .i64 (Int.tmod (wrap64 (bt a0 x6_1)) 128) (ji9))), wrap64 (x6_1 + 1), 0))))) else (none)) = some (r1, r2, r3) := by first | (rw [hji9] at H; exact H) | (simp only [hji9] at H ⊢; exact H)
                  have hji9w : (IntKind.i64.wrap (7 * x6_1)) = ji9 := (i64_w _).trans hji9
                  by_cases c10 : 0 ≤ (ji9)
                  · rw [if_pos c10] at H
                    have c10b0 := eq_true c10
                    have c10b1 : decide (0 ≤ (ji9)) = true := decide_eq_true c10
                    clear c10
                    obtain ⟨ji11, hji11⟩ : ∃ j_ : Int, (shl .i64 (Int.tmod (wrap64 (bt a0 x6_1)) 128) (ji9)) = j_ := ⟨_, rfl⟩
                    replace H : (if (wrap64 (bt a0 x6_1)) ≥ 128 then (lookoutref01_get.l0 kj5 a0 (wrap64 (x5_1 + (ji11))) (wrap64 (x6_1 + 1))) else (if x6_1 > 0 then (if (wrap64 (bt a0 x6_1)) = 0 then (some (0, 0, 12)) else (if (wrap64 (x5_1 + (ji11))) > 2305843009213693952 then (some (0, 0, 12)) else (some (wrap64 (x5_1 + (ji11)), wrap64 (x6_1 + 1), 0)))) else (if (wrap64 (x5_1 + (ji11))) > 2305843009213693952 then (some (0, 0, 12)) else (some (wrap64 (x5_1 + (ji11)), wrap64 (x6_1 + 1), 0))))) = some (r1, r2, r3) := by first | (rw [hji11] at H; exact H) | (simp only [hji11] at H ⊢; exact H)
                    have hji11_ : (IntKind.i64.wrap ((Int.tmod (wrap64 (bt a0 x6_1)) 128) * 2 ^ min (ji9).toNat 64)) = ji11 := hji11
                    have hji11z : (ji9) ≤ 64 → (IntKind.i64.wrap ((Int.tmod (wrap64 (bt a0 x6_1)) 128) * 2 ^ (ji9).toNat)) = ji11 := shl_small hji11
                    have hji11y : (wrap64 ((Int.tmod (wrap64 (bt a0 x6_1)) 128) * 2 ^ min (ji9).toNat 64)) = ji11 := (i64_w _).symm.trans hji11_
                    have hji11x : (ji9) ≤ 64 → (wrap64 ((Int.tmod (wrap64 (bt a0 x6_1)) 128) * 2 ^ (ji9).toNat)) = ji11 := fun h_ => (i64_w _).symm.trans (hji11z h_)
                    by_cases c12 : (wrap64 (bt a0 x6_1)) ≥ 128
                    · rw [if_pos c12] at H
                      have c12b0 : decide (128 ≤ (wrap64 (bt a0 x6_1))) = true := decide_eq_true c12
                      clear c12
                      have H' := Aside0.mk H
                      clear H
                      go_wp2
                      go_roundg kj5
                      case measure => have := HK1.out; have := HJ5.out; omega
                      case rel => exact ⟨(wrap64 (x5_1 + (ji11))), (wrap64 (x6_1 + 1)), (by first | rfl | (simp; done) | (simp only [← hji11] <;> (first | rfl | simp)) | (simp [*]; done)), (by first | rfl | (simp; done) | (simp [*]; done)), H', ⟨by have := HK1.out; have := HJ5.out; omega⟩, by repeat (first | exact Drawn0.refl _ | apply Drawn0.step)⟩
                    · rw [if_neg c12] at H
                      have c12b0 : decide (128 ≤ (wrap64 (bt a0 x6_1))) = false := decide_eq_false c12
                      clear c12
                      by_cases c13 : x6_1 > 0
                      · rw [if_pos c13] at H
                        have c13b0 : decide (0 < x6_1) = true := decide_eq_true c13
                        clear c13
                        by_cases c14 : (wrap64 (bt a0 x6_1)) = 0
                        · rw [if_pos c14] at H
                          have c14b0 : ((wrap64 (bt a0 x6_1)) == 0) = true := beq_iff_eq.mpr c14
                          have c14b1 : ((wrap64 (bt a0 x6_1)) != 0) = false := bne_eq_false_iff_eq.mpr c14
                          clear c14
                          simp only [Option.some.injEq, Prod.mk.injEq] at H
                          obtain ⟨rfl, rfl, rfl⟩ := H
                          go_wp2
                          go_ret3
                          exact ⟨by first | rfl | (simp; done) | (simp only [← hji9, ← hji11] <;> (first | rfl | simp)) | (simp [*]; done), by repeat (first | exact Drawn0.refl _ | apply Drawn0.step)⟩
                        · rw [if_neg c14] at H
                          have c14b0 : ((wrap64 (bt a0 x6_1)) == 0) = false := beq_eq_false_iff_ne.mpr c14
                          have c14b1 : ((wrap64 (bt a0 x6_1)) != 0) = true := bne_iff_ne.mpr c14
                          by_cases c15 : (wrap64 (x5_1 + (ji11))) > 2305843009213693952
                          · rw [if_pos c15] at H
                            have c15b0 : decide (2305843009213693952 < (wrap64 (x5_1 + (ji11)))) = true := decide_eq_true c15
                            clear c15
                            simp only [Option.some.injEq, Prod.mk.injEq] at H
                            obtain ⟨rfl, rfl, rfl⟩ := H
                            go_wp2
                            go_ret3
                            exact ⟨by first | rfl | (simp; done) | (simp only [← hji9, ← hji11] <;> (first | rfl | simp)) | (simp [*]; done), by repeat (first | exact Drawn0.refl _ | apply Drawn0.step)⟩
                          · rw [if_neg c15] at H
                            have c15b0 : decide (2305843009213693952 < (wrap64 (x5_1 + (ji11)))) = false := decide_eq_false c15
                            clear c15
                            simp only [Option.some.injEq, Prod.mk.injEq] at H
                            obtain ⟨rfl, rfl, rfl⟩ := H
                            go_wp2
                            go_ret3
                            exact ⟨by first | rfl | (simp; done) | (simp only [← hji9, ← hji11] <;> (first | rfl | simp)) | (simp [*]; done), by repeat (first | exact Drawn0.refl _ | apply Drawn0.step)⟩
                      · rw [if_neg c13] at H
                        have c13b0 : decide (0 < x6_1) = false := decide_eq_false c13
                        clear c13
                        by_cases c16 : (wrap64 (x5_1 + (ji11))) > 2305843009213693952
                        · rw [if_pos c16] at H
                          have c16b0 : decide (2305843009213693952 < (wrap64 (x5_1 + (ji11)))) = true := decide_eq_true c16
                          clear c16
                          simp only [Option.some.injEq, Prod.mk.injEq] at H
                          obtain ⟨rfl, rfl, rfl⟩ := H
                          go_wp2
                          go_ret3
                          exact ⟨by first | rfl | (simp; done) | (simp only [← hji9, ← hji11] <;> (first | rfl | simp)) | (simp [*]; done), by repeat (first | exact Drawn0.refl _ | apply Drawn0.step)⟩
                        · rw [if_neg c16] at H
                          have c16b0 : decide (2305843009213693952 < (wrap64 (x5_1 + (ji11)))) = false := decide_eq_false c16
                          clear c16
                          simp only [Option.some.injEq, Prod.mk.injEq] at H
                          obtain ⟨rfl, rfl, rfl⟩ := H
                          go_wp2
                          go_ret3
                          exact ⟨by first | rfl | (simp; done) | (simp only [← hji9, ← hji11] <;> (first | rfl | simp)) | (simp [*]; done), by repeat (first | exact Drawn0.refl _ | apply Drawn0.step)⟩
                  · rw [if_neg c10] at H
                    exact absurd H (by simp)
          · rw [if_neg c4] at H
            exact absurd H (by simp)
        · rw [if_neg c3] at H
          exact absurd H (by simp)

end Go.Proofs.Ythblifjeecdhcaa.E
