/- Printed by a program of this session: functions of the law's Go code as Lean functions, and that the Go code computes them. No condition beyond those in the statements. -/
import Derived.Test.YthblifjeecdhcaaPA
namespace Go.Proofs.Ythblifjeecdhcaa.P
open Go.RowKit Go.Proofs.YthblifjeecdhcaaW.PrintWords Go.Proofs.YthblifjeecdhcaaW.PrintLast Go.Proofs.YthblifjeecdhcaaW.PrintMore Go.Proofs.Ythblifjeecdhcaa.Hand Go.Proofs.Ythblifjeecdhcaa.A
attribute [local go_sem] max2_int min2_int max_two min_two max_three min_three max_four min_four   -- for this text's walks alone
set_option linter.unusedVariables false
set_option linter.unusedSimpArgs false

/-! ### lookoutref30_with: function 38 -/
mutual
def lookoutref30_with.l0 : Nat → List Int → Int → Int → List Int → Bool → Int → Option (List Int)
  | 0, _, _, _, _, _, _ => none
  | k + 1, x0, x1, x2, x7, x8, x9 => if x9 < (x0.length : Int) then (if x8 = true then (lookoutref30_with.j1 k x0 x1 x2 x7 x8 x9 false) else (if 0 ≤ x9 then (lookoutref30_with.j1 k x0 x1 x2 x7 x8 x9 (decide ((rd x0 x9) ≥ x1))) else (none))) else (if x8 = true then (if 0 ≤ (mn x2 (x7.length : Int)) then (if (mn x2 (x7.length : Int)) ≤ (x7.length : Int) then (some (x7.take ((mn x2 (x7.length : Int)) : Int).toNat)) else (none)) else (none)) else (if x7.length < 17592186044416 then ((some (x7 ++ [x1] : List Int)).bind fun y175 => (if 0 ≤ (mn x2 (y175.length : Int)) then (if (mn x2 (y175.length : Int)) ≤ (y175.length : Int) then (some (y175.take ((mn x2 (y175.length : Int)) : Int).toNat)) else (none)) else (none))) else (none)))
def lookoutref30_with.j1 : Nat → List Int → Int → Int → List Int → Bool → Int → Bool → Option (List Int)
  | 0, _, _, _, _, _, _, _ => none
  | k + 1, x0, x1, x2, x7, x8, x9, x26 => if x26 = true then (if x7.length < 17592186044416 then ((some (x7 ++ [x1] : List Int)).bind fun y182 => (if 0 ≤ x9 then (if x9 < (x0.length : Int) then (if (rd x0 x9) = x1 then (lookoutref30_with.l0 k x0 x1 x2 y182 true (wrap64 (x9 + 1))) else (if y182.length < 17592186044416 then (lookoutref30_with.l0 k x0 x1 x2 (y182 ++ [rd x0 x9]) true (wrap64 (x9 + 1))) else (none))) else (none)) else (none))) else (none)) else (if 0 ≤ x9 then (if x9 < (x0.length : Int) then (if (rd x0 x9) = x1 then (lookoutref30_with.l0 k x0 x1 x2 x7 x8 (wrap64 (x9 + 1))) else (if x7.length < 17592186044416 then (lookoutref30_with.l0 k x0 x1 x2 (x7 ++ [rd x0 x9]) x8 (wrap64 (x9 + 1))) else (none))) else (none)) else (none))
end
def lookoutref30_with.f (k : Nat) (l0 : List Int) (a1 : Int) (a2 : Int) : Option (List Int) := lookoutref30_with.l0 k l0 a1 a2 (([] : List Int)) false 0
theorem lookoutref30_with.mono_l : ∀ k, (∀ y0 y1 y2 y3 y4 y5, LeO (lookoutref30_with.l0 k y0 y1 y2 y3 y4 y5) (lookoutref30_with.l0 (k + 1) y0 y1 y2 y3 y4 y5)) ∧ (∀ y0 y1 y2 y3 y4 y5 y6, LeO (lookoutref30_with.j1 k y0 y1 y2 y3 y4 y5 y6) (lookoutref30_with.j1 (k + 1) y0 y1 y2 y3 y4 y5 y6))
  | 0 => ⟨fun _ _ _ _ _ _ r h => by simp [lookoutref30_with.l0] at h, fun _ _ _ _ _ _ _ r h => by simp [lookoutref30_with.j1] at h⟩
  | k + 1 => by
    obtain ⟨ih0, ih1⟩ := lookoutref30_with.mono_l k
    refine ⟨?_, ?_⟩
    · intro y0 y1 y2 y3 y4 y5
      unfold lookoutref30_with.l0
      repeat' first
      | (with_reducible exact ih0 _ _ _ _ _ _)
      | (with_reducible exact ih1 _ _ _ _ _ _ _)
      | (with_reducible exact LeO.refl _)
      | (with_reducible exact LeO.none _)
      | (with_reducible refine LeO.ite ?_ ?_)
      | (with_reducible refine LeO.bind ?_ (fun _ => ?_))
      | exact ih0 _ _ _ _ _ _
      | exact ih1 _ _ _ _ _ _ _
      | exact LeO.none _
      | refine LeO.ite ?_ ?_
      | refine LeO.bind ?_ (fun _ => ?_)
    · intro y0 y1 y2 y3 y4 y5 y6
      unfold lookoutref30_with.j1
      repeat' first
      | (with_reducible exact ih0 _ _ _ _ _ _)
      | (with_reducible exact ih1 _ _ _ _ _ _ _)
      | (with_reducible exact LeO.refl _)
      | (with_reducible exact LeO.none _)
      | (with_reducible refine LeO.ite ?_ ?_)
      | (with_reducible refine LeO.bind ?_ (fun _ => ?_))
      | exact ih0 _ _ _ _ _ _
      | exact ih1 _ _ _ _ _ _ _
      | exact LeO.none _
      | refine LeO.ite ?_ ?_
      | refine LeO.bind ?_ (fun _ => ?_)
theorem lookoutref30_with.mono : ∀ a0 a1 a2 k, LeO (lookoutref30_with.f k a0 a1 a2) (lookoutref30_with.f (k + 1) a0 a1 a2) := by
  intro a0 a1 a2 k
  obtain ⟨ih0, ih1⟩ := lookoutref30_with.mono_l k
  unfold lookoutref30_with.f
  repeat' first
      | (with_reducible exact ih0 _ _ _ _ _ _)
      | (with_reducible exact ih1 _ _ _ _ _ _ _)
      | (with_reducible exact LeO.refl _)
      | (with_reducible exact LeO.none _)
      | (with_reducible refine LeO.ite ?_ ?_)
      | (with_reducible refine LeO.bind ?_ (fun _ => ?_))
      | exact ih0 _ _ _ _ _ _
      | exact ih1 _ _ _ _ _ _ _
      | exact LeO.none _
      | refine LeO.ite ?_ ?_
      | refine LeO.bind ?_ (fun _ => ?_)
set_option maxHeartbeats 8000000 in
set_option maxRecDepth 100000 in
theorem lookoutref30_with.calls (k : Nat) (A0 : Option Addr) (c0 : Nat) (l0 : List Int) (a1 : Int) (a2 : Int) (r : List Int) (w : World) (hr0 : Kd.C (Kd.int .i64) w A0 l0.length l0) (hc0 : l0.length ≤ c0) (h : lookoutref30_with.f k l0 a1 a2 = some r) :
    Calls Try.prog 38 #[.slice A0 l0.length c0, .int .i64 a1, .int .i64 a2] w fun e w' => ∃ v0_ : Value, e = .returned (v0_) ∧ Kd.R (Kd.int .i64) 3 w' w.heap.size (fun _ => True) v0_ r ∧ Below w.heap.size w w' := by
  have HR0 := Aside0.mk hr0
  have HC0 := Aside0.mk hc0
  clear hr0 hc0
  have HB := Aside0.mk (Below.refl w.heap.size w)
  have H : (lookoutref30_with.l0 k l0 a1 a2 (([] : List Int)) false 0) = some r := h
  clear h
  obtain ⟨y169, hy169⟩ : ∃ y_ : List Int, y_ = (([] : List Int)) := ⟨_, rfl⟩
  replace H : (lookoutref30_with.l0 k l0 a1 a2 y169 false 0) = some r := by first | (rw [hy169]; with_reducible exact H) | (have H2_ := (Option.bind_some _ _).symm.trans H; rw [hy169]; with_reducible exact H2_) | (have H2_ := (Option.bind_some _ _).symm.trans H; with_reducible exact H2_) | with_reducible exact H | (rw [hy169]; exact H) | exact H
  have Ny169 := Aside0.mk hy169
  clear hy169
  have H' := Aside0.mk H
  clear H
  go_enter Try.func38, Try.ntmps38
  go_wp2_with (first | ((with_reducible refine gate_dst (N := 10) rfl ?_); refine Kd.R_lit (Kd.int .i64) _ 3 ?hg (N := 10) ?hd (xs := ([] : List Int)) (inner := []) (ok := fun _ => True) (okp := fun _ => True) ?hr ?hp (fun _ hk => hk) trivial (Below.refl _ _) (Nat.le_refl _) (by simp) ?_; (case hd => rfl); (case hg => rfl); (case hr => first | (go_simp; done) | (go_simp; rfl)); (case hp => exact (Reps.none _ _)); intro v170 w4 ho5 hb hg_ hnew_; clear hg_ hnew_; (first | rw [← Ny169.out] at ho5 | (simp only [Int.reduceToNat] at ho5; rw [← Ny169.out] at ho5)); have n0_ := Aside0.mk (Kd.R_lower ho5 (below_size (by repeat (first | (with_reducible first | exact HB.out | apply below_alloc | apply pw_below_drewN | apply below_drew1) | exact HB.out)))); have n1_ := Aside0.mk (below_step (by repeat (first | (with_reducible first | exact HB.out | apply below_alloc | apply pw_below_drewN | apply below_drew1) | exact HB.out)) hb); clear HB; have HO171 := n0_; have HB := n1_; clear n0_ n1_; clear hb ho5))
  go_loopg [7, 8, 9] k (fun kq v7 v8 v9 w' => ∃ (x7_1 : List Int) (x8_1 : Bool) (x9_1 : Int), v8 = .bool x8_1 ∧ v9 = .int .i64 x9_1 ∧ Aside0 (lookoutref30_with.l0 kq l0 a1 a2 x7_1 x8_1 x9_1 = some r) ∧ Aside0 (kq ≤ k) ∧ Aside0 (Kd.R (Kd.int .i64) 3 w' w.heap.size (fun _ => True) v7 x7_1) ∧ Aside0 (Below w.heap.size w w'))
  case atStart => exact ⟨(y169), (false), (0), (by first | rfl | (simp; done) | (simp [*]; done)), (by first | rfl | (simp; done) | (simp [*]; done)), H', ⟨Nat.le_refl _⟩, ⟨by (with_reducible repeat (first | apply Kd.R_alloc | apply Kd.R_drewN | apply Kd.R_drew)); exact HO171.out⟩, ⟨by repeat (first | (with_reducible first | exact HB.out | apply below_alloc | apply pw_below_drewN | apply below_drew1) | exact HB.out)⟩⟩
  case round =>
    clear H'
    try clear p2
    try clear c3
    obtain ⟨x7_1, x8_1, x9_1, rfl, rfl, HA, HK1, HO_7, HB⟩ := hrel
    cases gk with
    | zero => exact absurd HA.out (by simp [lookoutref30_with.l0])
    | succ k1 =>
      have H := HA.out
      clear HA
      simp only [lookoutref30_with.l0] at H
      by_cases c6 : x9_1 < (l0.length : Int)
      · rw [if_pos c6] at H
        have c6b0 : decide (x9_1 < (l0.length : Int)) = true := decide_eq_true c6
        clear c6
        have HC7 := Aside0.mk H
        clear H
        go_upto_region 6 with (fail)
        go_cut [26] (fun v26 wc => ∃ (kq : Nat) (x26_6 : Bool), v26 = .bool x26_6 ∧ Aside0 (lookoutref30_with.j1 kq l0 a1 a2 x7_1 x8_1 x9_1 x26_6 = some r) ∧ Aside0 (kq ≤ k1) ∧ Aside0 (Kd.R (Kd.int .i64) 3 wc w.heap.size (fun _ => True) u7 x7_1) ∧ Aside0 (Below w.heap.size w wc))
        case first =>
          have H := HC7.out
          clear HC7
          by_cases c8 : x8_1 = true
          · subst c8
            have H1 : (lookoutref30_with.j1 k1 l0 a1 a2 x7_1 true x9_1 false) = some r := by rw [if_pos rfl] at H; exact H
            clear H
            have H := H1
            clear H1
            have H' := Aside0.mk H
            clear H
            go_wp2
            go_meet
            case rel => exact ⟨_, (false), (by first | rfl | (simp; done) | (simp [*]; done)), H', ⟨by have := HK1.out; first | omega | exact Nat.le_refl _⟩, ⟨by (with_reducible repeat (first | apply Kd.R_alloc | apply Kd.R_drewN | apply Kd.R_drew)); exact HO_7.out⟩, ⟨by repeat (first | (with_reducible first | exact HB.out | apply below_alloc | apply pw_below_drewN | apply below_drew1) | exact HB.out)⟩⟩
          · replace c8 := Bool.eq_false_iff.mpr c8
            subst c8
            have H1 : (if 0 ≤ x9_1 then (lookoutref30_with.j1 k1 l0 a1 a2 x7_1 false x9_1 (decide ((rd l0 x9_1) ≥ a1))) else (none)) = some r := by rw [if_neg (show ¬ (false = true) by decide)] at H; exact H
            clear H
            have H := H1
            clear H1
            by_cases c9 : 0 ≤ x9_1
            · rw [if_pos c9] at H
              have c9b0 : decide (0 ≤ x9_1) = true := decide_eq_true c9
              clear c9
              (first | rw [c9b0] | (simp only [i64_w, i32_w]; rw [c9b0]) | rw [c9b1] | (simp only [i64_w, i32_w]; rw [c9b1]) | skip)
              have H' := Aside0.mk H
              clear H
              have p181 : 0 ≤ (x9_1 : Int) := of_decide_eq_true (by first | (with_reducible assumption) | assumption)
              have q181 : x9_1 < (l0.length : Int) := of_decide_eq_true (by first | (with_reducible assumption) | assumption)
              obtain ⟨ad181, e181, hx181_0⟩ := Kd.at_int HR0.out x9_1 p181 q181
              cases e181
              replace hx181_0 := (HB.out.cell (World.block_lt_of_cell? w _ hx181_0)).trans hx181_0
              replace p181 := eq_true p181
              replace q181 := eq_true q181
              go_wp2
              go_meet
              case rel => exact ⟨_, (decide ((rd l0 x9_1) ≥ a1)), (by first | rfl | (simp; done) | (simp [*]; done)), H', ⟨by have := HK1.out; first | omega | exact Nat.le_refl _⟩, ⟨by (with_reducible repeat (first | apply Kd.R_alloc | apply Kd.R_drewN | apply Kd.R_drew)); exact HO_7.out⟩, ⟨by repeat (first | (with_reducible first | exact HB.out | apply below_alloc | apply pw_below_drewN | apply below_drew1) | exact HB.out)⟩⟩
            · rw [if_neg c9] at H
              exact absurd H (by simp)
        case rest =>
          clear HC7
          try clear p1
          try clear q1
          try clear hx1
          try clear p2
          try clear c3
          try clear c6
          try clear c6b0
          try clear c8
          try clear c9
          try clear c9b0
          try clear c9b1
          try clear hx181_0
          try clear p181
          try clear p2
          try clear q181
          obtain ⟨kq, x26_6, rfl, HA, HJ6, HO_7, HB⟩ := hcut
          cases kq with
          | zero => exact absurd HA.out (by simp [lookoutref30_with.j1])
          | succ kj6 =>
            have H := HA.out
            clear HA
            simp only [lookoutref30_with.j1] at H
            by_cases c10 : x26_6 = true
            · subst c10
              have H1 : (if x7_1.length < 17592186044416 then ((some (x7_1 ++ [a1] : List Int)).bind fun y182 => (if 0 ≤ x9_1 then (if x9_1 < (l0.length : Int) then (if (rd l0 x9_1) = a1 then (lookoutref30_with.l0 kj6 l0 a1 a2 y182 true (wrap64 (x9_1 + 1))) else (if y182.length < 17592186044416 then (lookoutref30_with.l0 kj6 l0 a1 a2 (y182 ++ [rd l0 x9_1]) true (wrap64 (x9_1 + 1))) else (none))) else (none)) else (none))) else (none)) = some r := by rw [if_pos rfl] at H; exact H
              clear H
              have H := H1
              clear H1
              by_cases c11 : x7_1.length < 17592186044416
              · rw [if_pos c11] at H
                have LMc11 := Aside0.mk c11
                clear c11
                obtain ⟨y182, hy182⟩ : ∃ y_ : List Int, y_ = (x7_1 ++ [a1]) := ⟨_, rfl⟩
                replace H : (if 0 ≤ x9_1 then (if x9_1 < (l0.length : Int) then (if (rd l0 x9_1) = a1 then (lookoutref30_with.l0 kj6 l0 a1 a2 y182 true (wrap64 (x9_1 + 1))) else (if y182.length < 17592186044416 then (lookoutref30_with.l0 kj6 l0 a1 a2 (y182 ++ [rd l0 x9_1]) true (wrap64 (x9_1 + 1))) else (none))) else (none)) else (none)) = some r := by first | (rw [hy182]; with_reducible exact H) | (have H2_ := (Option.bind_some _ _).symm.trans H; rw [hy182]; with_reducible exact H2_) | (have H2_ := (Option.bind_some _ _).symm.trans H; with_reducible exact H2_) | with_reducible exact H | (rw [hy182]; exact H) | exact H
                have Ny182 := Aside0.mk hy182
                clear hy182
                by_cases c12 : 0 ≤ x9_1
                · rw [if_pos c12] at H
                  have c12b0 : decide (0 ≤ x9_1) = true := decide_eq_true c12
                  clear c12
                  by_cases c13 : x9_1 < (l0.length : Int)
                  · rw [if_pos c13] at H
                    have c13b0 : decide (x9_1 < (l0.length : Int)) = true := decide_eq_true c13
                    clear c13
                    by_cases c14 : (rd l0 x9_1) = a1
                    · rw [if_pos c14] at H
                      have c14b0 : ((rd l0 x9_1) == a1) = true := beq_iff_eq.mpr c14
                      have c14b1 : ((rd l0 x9_1) != a1) = false := bne_eq_false_iff_eq.mpr c14
                      clear c14
                      have H' := Aside0.mk H
                      clear H
                      go_wp2_with (first | ((with_reducible refine gate_builtin (b := .append) (xs := #[.tmp 27, .tmp 29]) rfl ?_); at_builtin; refine Kd.R_append (Kd.int .i64) (w0 := w) w.heap.size rfl (.tmp 27) (.tmp 29) 22 3 (.int .i64 0) 8 rfl Try.underlying22 info3 rfl (by decide) (by omega) u7 x7_1 a1 [.int .i64 a1] (fun _ => True) (fun _ => False) rfl rfl ?aP (fun _ hk => hk.elim) ?aF ?aO ?aB ?aS ?aL ?_; (case aP => exact rfl); (case aB => exact (by repeat (first | (with_reducible first | exact HB.out | apply below_alloc | apply pw_below_drewN | apply below_drew1) | exact HB.out))); (case aF => exact (fun _ _ => trivial)); (case aO => exact (by (with_reducible repeat (first | apply Kd.R_alloc | apply Kd.R_drewN | apply Kd.R_drew)); exact HO_7.out)); (case aS => exact (below_size (by repeat (first | (with_reducible first | exact HB.out | apply below_alloc | apply pw_below_drewN | apply below_drew1) | exact HB.out)))); (case aL => have := LMc11.out; omega); intro v183 w15 ho hb hg hat; rw [← Ny182.out] at ho; have n0_ := Aside0.mk (hb); have n1_ := Aside0.mk (ho); clear HB; clear HO_7; have HB := n0_; have HO184 := n1_; clear n0_ n1_; clear ho hb hg hat; have p185 : 0 ≤ (x9_1 : Int) := of_decide_eq_true (by first | (with_reducible assumption) | assumption); have q185 : x9_1 < (l0.length : Int) := of_decide_eq_true (by first | (with_reducible assumption) | assumption); obtain ⟨ad185, e185, hx185_0⟩ := Kd.at_int HR0.out x9_1 p185 q185; cases e185; replace hx185_0 := (HB.out.cell (World.block_lt_of_cell? w _ hx185_0)).trans hx185_0; replace p185 := eq_true p185; replace q185 := eq_true q185))
                      go_roundg kj6
                      case measure => have := HK1.out; have := HJ6.out; omega
                      case rel => exact ⟨(y182), (true), (wrap64 (x9_1 + 1)), (by first | rfl | (simp; done) | (simp [*]; done)), (by first | rfl | (simp; done) | (simp [*]; done)), H', ⟨by have := HK1.out; have := HJ6.out; omega⟩, ⟨by (with_reducible repeat (first | apply Kd.R_alloc | apply Kd.R_drewN | apply Kd.R_drew)); exact HO184.out⟩, ⟨by repeat (first | (with_reducible first | exact HB.out | apply below_alloc | apply pw_below_drewN | apply below_drew1) | exact HB.out)⟩⟩
                    · rw [if_neg c14] at H
                      have c14b0 : ((rd l0 x9_1) == a1) = false := beq_eq_false_iff_ne.mpr c14
                      have c14b1 : ((rd l0 x9_1) != a1) = true := bne_iff_ne.mpr c14
                      by_cases c16 : y182.length < 17592186044416
                      · rw [if_pos c16] at H
                        have LMc16 := Aside0.mk c16
                        clear c16
                        obtain ⟨y187, hy187⟩ : ∃ y_ : List Int, y_ = (y182 ++ [rd l0 x9_1]) := ⟨_, rfl⟩
                        replace H : (lookoutref30_with.l0 kj6 l0 a1 a2 y187 true (wrap64 (x9_1 + 1))) = some r := by first | (rw [hy187]; with_reducible exact H) | (have H2_ := (Option.bind_some _ _).symm.trans H; rw [hy187]; with_reducible exact H2_) | (have H2_ := (Option.bind_some _ _).symm.trans H; with_reducible exact H2_) | with_reducible exact H | (rw [hy187]; exact H) | exact H
                        have Ny187 := Aside0.mk hy187
                        clear hy187
                        have H' := Aside0.mk H
                        clear H
                        go_wp2_with (first | ((with_reducible refine gate_builtin (b := .append) (xs := #[.tmp 27, .tmp 29]) rfl ?_); at_builtin; refine Kd.R_append (Kd.int .i64) (w0 := w) w.heap.size rfl (.tmp 27) (.tmp 29) 22 3 (.int .i64 0) 8 rfl Try.underlying22 info3 rfl (by decide) (by omega) u7 x7_1 a1 [.int .i64 a1] (fun _ => True) (fun _ => False) rfl rfl ?aP (fun _ hk => hk.elim) ?aF ?aO ?aB ?aS ?aL ?_; (case aP => exact rfl); (case aB => exact (by repeat (first | (with_reducible first | exact HB.out | apply below_alloc | apply pw_below_drewN | apply below_drew1) | exact HB.out))); (case aF => exact (fun _ _ => trivial)); (case aO => exact (by (with_reducible repeat (first | apply Kd.R_alloc | apply Kd.R_drewN | apply Kd.R_drew)); exact HO_7.out)); (case aS => exact (below_size (by repeat (first | (with_reducible first | exact HB.out | apply below_alloc | apply pw_below_drewN | apply below_drew1) | exact HB.out)))); (case aL => have := LMc11.out; omega); intro v183 w17 ho hb hg hat; rw [← Ny182.out] at ho; have n0_ := Aside0.mk (hb); have n1_ := Aside0.mk (ho); clear HB; clear HO_7; have HB := n0_; have HO184 := n1_; clear n0_ n1_; clear ho hb hg hat; have p185 : 0 ≤ (x9_1 : Int) := of_decide_eq_true (by first | (with_reducible assumption) | assumption); have q185 : x9_1 < (l0.length : Int) := of_decide_eq_true (by first | (with_reducible assumption) | assumption); obtain ⟨ad185, e185, hx185_0⟩ := Kd.at_int HR0.out x9_1 p185 q185; cases e185; replace hx185_0 := (HB.out.cell (World.block_lt_of_cell? w _ hx185_0)).trans hx185_0; replace p185 := eq_true p185; replace q185 := eq_true q185; have p186 : 0 ≤ (x9_1 : Int) := of_decide_eq_true (by first | (with_reducible assumption) | assumption); have q186 : x9_1 < (l0.length : Int) := of_decide_eq_true (by first | (with_reducible assumption) | assumption); obtain ⟨ad186, e186, hx186_0⟩ := Kd.at_int HR0.out x9_1 p186 q186; obtain rfl : ad185 = ad186 := (by injection e186); replace hx186_0 := (HB.out.cell (World.block_lt_of_cell? w _ hx186_0)).trans hx186_0; replace p186 := eq_true p186; replace q186 := eq_true q186) | ((with_reducible refine gate_builtin (b := .append) (xs := #[.tmp 37, .tmp 42]) rfl ?_); at_builtin; refine Kd.R_append (Kd.int .i64) (w0 := w) w.heap.size rfl (.tmp 37) (.tmp 42) 22 3 (.int .i64 0) 8 rfl Try.underlying22 info3 rfl (by decide) (by omega) v183 y182 (rd l0 x9_1) [.int .i64 (rd l0 x9_1)] (fun _ => True) (fun _ => False) rfl rfl ?aP (fun _ hk => hk.elim) ?aF ?aO ?aB ?aS ?aL ?_; (case aP => exact rfl); (case aB => exact (by repeat (first | (with_reducible first | exact HB.out | apply below_alloc | apply pw_below_drewN | apply below_drew1) | exact HB.out))); (case aF => exact (fun _ _ => trivial)); (case aO => exact (by (with_reducible repeat (first | apply Kd.R_alloc | apply Kd.R_drewN | apply Kd.R_drew)); exact HO184.out)); (case aS => exact (below_size (by repeat (first | (with_reducible first | exact HB.out | apply below_alloc | apply pw_below_drewN | apply below_drew1) | exact HB.out)))); (case aL => have := LMc16.out; omega); intro v188 w18 ho hb hg hat; rw [← Ny187.out] at ho; have n0_ := Aside0.mk (hb); have n1_ := Aside0.mk (ho); clear HB; clear HO184; have HB := n0_; have HO189 := n1_; clear n0_ n1_; clear ho hb hg hat))
                        go_roundg kj6
                        case measure => have := HK1.out; have := HJ6.out; omega
                        case rel => exact ⟨(y187), (true), (wrap64 (x9_1 + 1)), (by first | rfl | (simp; done) | (simp [*]; done)), (by first | rfl | (simp; done) | (simp [*]; done)), H', ⟨by have := HK1.out; have := HJ6.out; omega⟩, ⟨by (with_reducible repeat (first | apply Kd.R_alloc | apply Kd.R_drewN | apply Kd.R_drew)); exact HO189.out⟩, ⟨by repeat (first | (with_reducible first | exact HB.out | apply below_alloc | apply pw_below_drewN | apply below_drew1) | exact HB.out)⟩⟩
                      · rw [if_neg c16] at H
                        exact absurd H (by simp)
                  · rw [if_neg c13] at H
                    exact absurd H (by simp)
                · rw [if_neg c12] at H
                  exact absurd H (by simp)
              · rw [if_neg c11] at H
                exact absurd H (by simp)
            · replace c10 := Bool.eq_false_iff.mpr c10
              subst c10
              have H1 : (if 0 ≤ x9_1 then (if x9_1 < (l0.length : Int) then (if (rd l0 x9_1) = a1 then (lookoutref30_with.l0 kj6 l0 a1 a2 x7_1 x8_1 (wrap64 (x9_1 + 1))) else (if x7_1.length < 17592186044416 then (lookoutref30_with.l0 kj6 l0 a1 a2 (x7_1 ++ [rd l0 x9_1]) x8_1 (wrap64 (x9_1 + 1))) else (none))) else (none)) else (none)) = some r := by rw [if_neg (show ¬ (false = true) by decide)] at H; exact H
              clear H
              have H := H1
              clear H1
              by_cases c19 : 0 ≤ x9_1
              · rw [if_pos c19] at H
                have c19b0 : decide (0 ≤ x9_1) = true := decide_eq_true c19
                clear c19
                by_cases c20 : x9_1 < (l0.length : Int)
                · rw [if_pos c20] at H
                  have c20b0 : decide (x9_1 < (l0.length : Int)) = true := decide_eq_true c20
                  clear c20
                  by_cases c21 : (rd l0 x9_1) = a1
                  · rw [if_pos c21] at H
                    have c21b0 : ((rd l0 x9_1) == a1) = true := beq_iff_eq.mpr c21
                    have c21b1 : ((rd l0 x9_1) != a1) = false := bne_eq_false_iff_eq.mpr c21
                    clear c21
                    have H' := Aside0.mk H
                    clear H
                    have p190 : 0 ≤ (x9_1 : Int) := of_decide_eq_true (by first | (with_reducible assumption) | assumption)
                    have q190 : x9_1 < (l0.length : Int) := of_decide_eq_true (by first | (with_reducible assumption) | assumption)
                    obtain ⟨ad190, e190, hx190_0⟩ := Kd.at_int HR0.out x9_1 p190 q190
                    cases e190
                    replace hx190_0 := (HB.out.cell (World.block_lt_of_cell? w _ hx190_0)).trans hx190_0
                    replace p190 := eq_true p190
                    replace q190 := eq_true q190
                    go_wp2
                    go_roundg kj6
                    case measure => have := HK1.out; have := HJ6.out; omega
                    case rel => exact ⟨(x7_1), (x8_1), (wrap64 (x9_1 + 1)), (by first | rfl | (simp; done) | (simp [*]; done)), (by first | rfl | (simp; done) | (simp [*]; done)), H', ⟨by have := HK1.out; have := HJ6.out; omega⟩, ⟨by (with_reducible repeat (first | apply Kd.R_alloc | apply Kd.R_drewN | apply Kd.R_drew)); exact HO_7.out⟩, ⟨by repeat (first | (with_reducible first | exact HB.out | apply below_alloc | apply pw_below_drewN | apply below_drew1) | exact HB.out)⟩⟩
                  · rw [if_neg c21] at H
                    have c21b0 : ((rd l0 x9_1) == a1) = false := beq_eq_false_iff_ne.mpr c21
                    have c21b1 : ((rd l0 x9_1) != a1) = true := bne_iff_ne.mpr c21
                    by_cases c22 : x7_1.length < 17592186044416
                    · rw [if_pos c22] at H
                      have LMc22 := Aside0.mk c22
                      clear c22
                      obtain ⟨y192, hy192⟩ : ∃ y_ : List Int, y_ = (x7_1 ++ [rd l0 x9_1]) := ⟨_, rfl⟩
                      replace H : (lookoutref30_with.l0 kj6 l0 a1 a2 y192 x8_1 (wrap64 (x9_1 + 1))) = some r := by first | (rw [hy192]; with_reducible exact H) | (have H2_ := (Option.bind_some _ _).symm.trans H; rw [hy192]; with_reducible exact H2_) | (have H2_ := (Option.bind_some _ _).symm.trans H; with_reducible exact H2_) | with_reducible exact H | (rw [hy192]; exact H) | exact H
                      have Ny192 := Aside0.mk hy192
                      clear hy192
                      have H' := Aside0.mk H
                      clear H
                      have p190 : 0 ≤ (x9_1 : Int) := of_decide_eq_true (by first | (with_reducible assumption) | assumption)
                      have q190 : x9_1 < (l0.length : Int) := of_decide_eq_true (by first | (with_reducible assumption) | assumption)
                      obtain ⟨ad190, e190, hx190_0⟩ := Kd.at_int HR0.out x9_1 p190 q190
                      cases e190
                      replace hx190_0 := (HB.out.cell (World.block_lt_of_cell? w _ hx190_0)).trans hx190_0
                      replace p190 := eq_true p190
                      replace q190 := eq_true q190
                      have p191 : 0 ≤ (x9_1 : Int) := of_decide_eq_true (by first | (with_reducible assumption) | assumption)
                      have q191 : x9_1 < (l0.length : Int) := of_decide_eq_true (by first | (with_reducible assumption) | assumption)
                      obtain ⟨ad191, e191, hx191_0⟩ := Kd.at_int HR0.out x9_1 p191 q191
                      obtain rfl : ad190 = ad191 := (by injection e191)
                      replace hx191_0 := (HB.out.cell (World.block_lt_of_cell? w _ hx191_0)).trans hx191_0
                      replace p191 := eq_true p191
                      replace q191 := eq_true q191
                      go_wp2_with (first | ((with_reducible refine gate_builtin (b := .append) (xs := #[.tmp 37, .tmp 42]) rfl ?_); at_builtin; refine Kd.R_append (Kd.int .i64) (w0 := w) w.heap.size rfl (.tmp 37) (.tmp 42) 22 3 (.int .i64 0) 8 rfl Try.underlying22 info3 rfl (by decide) (by omega) u7 x7_1 (rd l0 x9_1) [.int .i64 (rd l0 x9_1)] (fun _ => True) (fun _ => False) rfl rfl ?aP (fun _ hk => hk.elim) ?aF ?aO ?aB ?aS ?aL ?_; (case aP => exact rfl); (case aB => exact (by repeat (first | (with_reducible first | exact HB.out | apply below_alloc | apply pw_below_drewN | apply below_drew1) | exact HB.out))); (case aF => exact (fun _ _ => trivial)); (case aO => exact (by (with_reducible repeat (first | apply Kd.R_alloc | apply Kd.R_drewN | apply Kd.R_drew)); exact HO_7.out)); (case aS => exact (below_size (by repeat (first | (with_reducible first | exact HB.out | apply below_alloc | apply pw_below_drewN | apply below_drew1) | exact HB.out)))); (case aL => have := LMc22.out; omega); intro v193 w23 ho hb hg hat; rw [← Ny192.out] at ho; have n0_ := Aside0.mk (hb); have n1_ := Aside0.mk (ho); clear HB; clear HO_7; have HB := n0_; have HO194 := n1_; clear n0_ n1_; clear ho hb hg hat))
                      go_roundg kj6
                      case measure => have := HK1.out; have := HJ6.out; omega
                      case rel => exact ⟨(y192), (x8_1), (wrap64 (x9_1 + 1)), (by first | rfl | (simp; done) | (simp [*]; done)), (by first | rfl | (simp; done) | (simp [*]; done)), H', ⟨by have := HK1.out; have := HJ6.out; omega⟩, ⟨by (with_reducible repeat (first | apply Kd.R_alloc | apply Kd.R_drewN | apply Kd.R_drew)); exact HO194.out⟩, ⟨by repeat (first | (with_reducible first | exact HB.out | apply below_alloc | apply pw_below_drewN | apply below_drew1) | exact HB.out)⟩⟩
                    · rw [if_neg c22] at H
                      exact absurd H (by simp)
                · rw [if_neg c20] at H
                  exact absurd H (by simp)
              · rw [if_neg c19] at H
                exact absurd H (by simp)
      · rw [if_neg c6] at H
        have c6b0 : decide (x9_1 < (l0.length : Int)) = false := decide_eq_false c6
        clear c6
        by_cases c24 : x8_1 = true
        · subst c24
          have H1 : (if 0 ≤ (mn a2 (x7_1.length : Int)) then (if (mn a2 (x7_1.length : Int)) ≤ (x7_1.length : Int) then (some (x7_1.take ((mn a2 (x7_1.length : Int)) : Int).toNat)) else (none)) else (none)) = some r := by rw [if_pos rfl] at H; exact H
          clear H
          have H := H1
          clear H1
          obtain ⟨ji25, hji25⟩ : ∃ j_ : Int, (mn a2 (x7_1.length : Int)) = j_ := ⟨_, rfl⟩
          replace H : (if 0 ≤ (ji25) then (if (ji25) ≤ (x7_1.length : Int) then (some (x7_1.take ((ji25) : Int).toNat)) else (none)) else (none)) = some r := by first | (rw [hji25] at H; exact H) | (simp only [hji25] at H ⊢; exact H)
          have hji25_ : (if (x7_1.length : Int) < a2 then (x7_1.length : Int) else a2) = ji25 := hji25
          by_cases c26 : 0 ≤ (ji25)
          · rw [if_pos c26] at H
            have c26b0 := eq_true c26
            have c26b1 : decide (0 ≤ (ji25)) = true := decide_eq_true c26
            clear c26
            by_cases c27 : (ji25) ≤ (x7_1.length : Int)
            · rw [if_pos c27] at H
              have c27b0 := eq_true c27
              have c27b1 : decide ((ji25) ≤ (x7_1.length : Int)) = true := decide_eq_true c27
              clear c27
              obtain ⟨y172, hy172⟩ : ∃ y_ : List Int, y_ = (x7_1.take ((ji25) : Int).toNat) := ⟨_, rfl⟩
              replace H : (some y172) = some r := by first | (rw [hy172]; with_reducible exact H) | (have H2_ := (Option.bind_some _ _).symm.trans H; rw [hy172]; with_reducible exact H2_) | (have H2_ := (Option.bind_some _ _).symm.trans H; with_reducible exact H2_) | with_reducible exact H | (rw [hy172]; exact H) | exact H
              have Ny172 := Aside0.mk hy172
              clear hy172
              obtain rfl := Option.some.inj H
              obtain ⟨Ao28, co28, eo28⟩ := Kd.R_slice HO_7.out
              subst eo28
              have q29 : ((ji25) : Int) ≤ ((x7_1.length : Int) : Int) := of_decide_eq_true (by first | (with_reducible assumption) | assumption)
              obtain ⟨i029, hi029, _, hsz29, _⟩ := info_parts info3
              have hcut29 := cut_to (P := Try.prog) 22 3 .i64 Try.underlying22 hi029 Ao28 x7_1.length co28 (ji25) (of_decide_eq_true (by first | (with_reducible assumption) | assumption)) q29 (Kd.R_reads' HO_7.out).2.1
              have hr29 := Kd.R_take (m := ((ji25) : Int).toNat) HO_7.out (by omega)
              have hy29 : y172.length = ((ji25) : Int).toNat := (by rw [Ny172.out, List.length_take]; omega)
              rw [← Ny172.out] at hr29
              rw [← hy29] at hr29 hcut29
              clear hy29 hi029 hsz29 HO_7
              have HO174 := Aside0.mk hr29
              clear hr29
              replace q29 := eq_true q29
              go_wp2
              go_ret
              exact ⟨_, by first | rfl | (simp [errW_none, errW_some] <;> rfl) | (simp only [← hji25]; first | rfl | (simp [errW_none, errW_some] <;> rfl)) | (simp [*, errW_none, errW_some] <;> rfl), by (with_reducible repeat (first | apply Kd.R_alloc | apply Kd.R_drewN | apply Kd.R_drew)); exact HO174.out, by repeat (first | (with_reducible first | exact HB.out | apply below_alloc | apply pw_below_drewN | apply below_drew1) | exact HB.out)⟩
            · rw [if_neg c27] at H
              exact absurd H (by simp)
          · rw [if_neg c26] at H
            exact absurd H (by simp)
        · replace c24 := Bool.eq_false_iff.mpr c24
          subst c24
          have H1 : (if x7_1.length < 17592186044416 then ((some (x7_1 ++ [a1] : List Int)).bind fun y175 => (if 0 ≤ (mn a2 (y175.length : Int)) then (if (mn a2 (y175.length : Int)) ≤ (y175.length : Int) then (some (y175.take ((mn a2 (y175.length : Int)) : Int).toNat)) else (none)) else (none))) else (none)) = some r := by rw [if_neg (show ¬ (false = true) by decide)] at H; exact H
          clear H
          have H := H1
          clear H1
          by_cases c30 : x7_1.length < 17592186044416
          · rw [if_pos c30] at H
            have LMc30 := Aside0.mk c30
            clear c30
            obtain ⟨y175, hy175⟩ : ∃ y_ : List Int, y_ = (x7_1 ++ [a1]) := ⟨_, rfl⟩
            replace H : (if 0 ≤ (mn a2 (y175.length : Int)) then (if (mn a2 (y175.length : Int)) ≤ (y175.length : Int) then (some (y175.take ((mn a2 (y175.length : Int)) : Int).toNat)) else (none)) else (none)) = some r := by first | (rw [hy175]; with_reducible exact H) | (have H2_ := (Option.bind_some _ _).symm.trans H; rw [hy175]; with_reducible exact H2_) | (have H2_ := (Option.bind_some _ _).symm.trans H; with_reducible exact H2_) | with_reducible exact H | (rw [hy175]; exact H) | exact H
            have Ny175 := Aside0.mk hy175
            clear hy175
            obtain ⟨ji31, hji31⟩ : ∃ j_ : Int, (mn a2 (y175.length : Int)) = j_ := ⟨_, rfl⟩
            replace H : (if 0 ≤ (ji31) then (if (ji31) ≤ (y175.length : Int) then (some (y175.take ((ji31) : Int).toNat)) else (none)) else (none)) = some r := by first | (rw [hji31] at H; exact H) | (simp only [hji31] at H ⊢; exact H)
            have hji31_ : (if (y175.length : Int) < a2 then (y175.length : Int) else a2) = ji31 := hji31
            by_cases c32 : 0 ≤ (ji31)
            · rw [if_pos c32] at H
              have c32b0 := eq_true c32
              have c32b1 : decide (0 ≤ (ji31)) = true := decide_eq_true c32
              clear c32
              by_cases c33 : (ji31) ≤ (y175.length : Int)
              · rw [if_pos c33] at H
                have c33b0 := eq_true c33
                have c33b1 : decide ((ji31) ≤ (y175.length : Int)) = true := decide_eq_true c33
                clear c33
                obtain ⟨y178, hy178⟩ : ∃ y_ : List Int, y_ = (y175.take ((ji31) : Int).toNat) := ⟨_, rfl⟩
                replace H : (some y178) = some r := by first | (rw [hy178]; with_reducible exact H) | (have H2_ := (Option.bind_some _ _).symm.trans H; rw [hy178]; with_reducible exact H2_) | (have H2_ := (Option.bind_some _ _).symm.trans H; with_reducible exact H2_) | with_reducible exact H | (rw [hy178]; exact H) | exact H
                have Ny178 := Aside0.mk hy178
                clear hy178
                obtain rfl := Option.some.inj H
                go_wp2_with (first | ((with_reducible refine gate_builtin (b := .append) (xs := #[.tmp 46, .tmp 48]) rfl ?_); at_builtin; refine Kd.R_append (Kd.int .i64) (w0 := w) w.heap.size rfl (.tmp 46) (.tmp 48) 22 3 (.int .i64 0) 8 rfl Try.underlying22 info3 rfl (by decide) (by omega) u7 x7_1 a1 [.int .i64 a1] (fun _ => True) (fun _ => False) rfl rfl ?aP (fun _ hk => hk.elim) ?aF ?aO ?aB ?aS ?aL ?_; (case aP => exact rfl); (case aB => exact (by repeat (first | (with_reducible first | exact HB.out | apply below_alloc | apply pw_below_drewN | apply below_drew1) | exact HB.out))); (case aF => exact (fun _ _ => trivial)); (case aO => exact (by (with_reducible repeat (first | apply Kd.R_alloc | apply Kd.R_drewN | apply Kd.R_drew)); exact HO_7.out)); (case aS => exact (below_size (by repeat (first | (with_reducible first | exact HB.out | apply below_alloc | apply pw_below_drewN | apply below_drew1) | exact HB.out)))); (case aL => have := LMc30.out; omega); intro v176 w34 ho hb hg hat; rw [← Ny175.out] at ho; have n0_ := Aside0.mk (hb); have n1_ := Aside0.mk (ho); clear HB; clear HO_7; have HB := n0_; have HO177 := n1_; clear n0_ n1_; clear ho hb hg hat; obtain ⟨Ao35, co35, eo35⟩ := Kd.R_slice HO177.out; subst eo35; have q36 : ((ji31) : Int) ≤ ((y175.length : Int) : Int) := of_decide_eq_true (by first | (with_reducible assumption) | assumption); obtain ⟨i036, hi036, _, hsz36, _⟩ := info_parts info3; have hcut36 := cut_to (P := Try.prog) 22 3 .i64 Try.underlying22 hi036 Ao35 y175.length co35 (ji31) (of_decide_eq_true (by first | (with_reducible assumption) | assumption)) q36 (Kd.R_reads' HO177.out).2.1; have hr36 := Kd.R_take (m := ((ji31) : Int).toNat) HO177.out (by omega); have hy36 : y178.length = ((ji31) : Int).toNat := (by rw [Ny178.out, List.length_take]; omega); rw [← Ny178.out] at hr36; rw [← hy36] at hr36 hcut36; clear hy36 hi036 hsz36 HO177; have HO180 := Aside0.mk hr36; clear hr36; replace q36 := eq_true q36))
                go_ret
                exact ⟨_, by first | rfl | (simp [errW_none, errW_some] <;> rfl) | (simp only [← hji31]; first | rfl | (simp [errW_none, errW_some] <;> rfl)) | (simp [*, errW_none, errW_some] <;> rfl), by (with_reducible repeat (first | apply Kd.R_alloc | apply Kd.R_drewN | apply Kd.R_drew)); exact HO180.out, by repeat (first | (with_reducible first | exact HB.out | apply below_alloc | apply pw_below_drewN | apply below_drew1) | exact HB.out)⟩
              · rw [if_neg c33] at H
                exact absurd H (by simp)
            · rw [if_neg c32] at H
              exact absurd H (by simp)
          · rw [if_neg c30] at H
            exact absurd H (by simp)

end Go.Proofs.Ythblifjeecdhcaa.P
