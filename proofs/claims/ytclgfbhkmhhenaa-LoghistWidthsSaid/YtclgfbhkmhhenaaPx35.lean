/- Printed by a program of this session: functions of the law's Go code as Lean functions, and that the Go code computes them. No condition beyond those in the statements. -/
import Derived.Test.YtclgfbhkmhhenaaPA
import Derived.Test.YtclgfbhkmhhenaaPx33
namespace Go.Proofs.Ytclgfbhkmhhenaa.P
open Go.RowKit Go.Proofs.YtclgfbhkmhhenaaW.PrintWords Go.Proofs.YtclgfbhkmhhenaaW.PrintLast Go.Proofs.YtclgfbhkmhhenaaW.PrintMore Go.Proofs.Ytclgfbhkmhhenaa.Hand Go.Proofs.Ytclgfbhkmhhenaa.A Go.Proofs.Ytclgfbhkmhhenaa.B
attribute [local go_sem] max2_int min2_int max_two min_two max_three min_three max_four min_four   -- for this text's walks alone
set_option linter.unusedVariables false
set_option linter.unusedSimpArgs false

/-! ### lookoutlaw12_LoghistWidths: function 4 -/
mutual
def lookoutlaw12_LoghistWidths.j0 : Nat → Int → Int → Int → Int → Int → Int → Bool → Option (Bool)
  | 0, _, _, _, _, _, _, _ => none
  | k + 1, x0, x1, x2, x7, x9, x10, x56 => if x56 = true then (none) else ((loghist_Bounds.f k x0 (wrap64 (x7 - 1))).bind fun bt226 => (if x7 > 0 then (if bt226.2.2 = 0 then (if bt226.2.1 = (wrap64 (x9 - 1)) then (if x7 = 0 then (lookoutlaw12_LoghistWidths.j1 k x0 x1 x2 x7 x10 (x9 != 0)) else (lookoutlaw12_LoghistWidths.j1 k x0 x1 x2 x7 x10 false)) else (lookoutlaw12_LoghistWidths.j1 k x0 x1 x2 x7 x10 true)) else (lookoutlaw12_LoghistWidths.j1 k x0 x1 x2 x7 x10 true)) else (if x7 = 0 then (lookoutlaw12_LoghistWidths.j1 k x0 x1 x2 x7 x10 (x9 != 0)) else (lookoutlaw12_LoghistWidths.j1 k x0 x1 x2 x7 x10 false))))
def lookoutlaw12_LoghistWidths.j1 : Nat → Int → Int → Int → Int → Int → Bool → Option (Bool)
  | 0, _, _, _, _, _, _ => none
  | k + 1, x0, x1, x2, x7, x10, x84 => if x84 = true then (none) else ((loghist_Bounds.f k x0 (wrap64 (x7 + 1))).bind fun bt229 => (if bt229.2.2 = 0 then (if bt229.1 = (wrap64 (x10 + 1)) then (lookoutlaw12_LoghistWidths.j2 k x0 x1 x2 x7 false) else (lookoutlaw12_LoghistWidths.j2 k x0 x1 x2 x7 true)) else (lookoutlaw12_LoghistWidths.j2 k x0 x1 x2 x7 (x10 != 1099511627776))))
def lookoutlaw12_LoghistWidths.j2 : Nat → Int → Int → Int → Int → Bool → Option (Bool)
  | 0, _, _, _, _, _ => none
  | k + 1, x0, x1, x2, x7, x108 => if x108 = true then (none) else ((loghist_Index.f k x0 x2).bind fun bt232 => (if bt232.2 = 0 then (if x2 ≥ x1 then (if x2 ≤ x1 then ((lookoutlaw12_awake.f k).bind fun t234 => (some t234)) else (if bt232.1 ≥ x7 then ((lookoutlaw12_awake.f k).bind fun t235 => (some t235)) else (none))) else (if bt232.1 ≤ x7 then (if x2 ≤ x1 then ((lookoutlaw12_awake.f k).bind fun t236 => (some t236)) else (if bt232.1 ≥ x7 then ((lookoutlaw12_awake.f k).bind fun t237 => (some t237)) else (none))) else (none))) else ((lookoutlaw12_awake.f k).bind fun t238 => (some t238))))
end
def lookoutlaw12_LoghistWidths.f (k : Nat) (a0 : Int) (a1 : Int) (a2 : Int) : Option (Bool) := (loghist_Index.f k a0 a1).bind fun bt220 => (if bt220.2 = 0 then ((loghist_Bounds.f k a0 bt220.1).bind fun bt223 => (if bt223.2.2 = 0 then (if a1 < bt223.1 then (lookoutlaw12_LoghistWidths.j0 k a0 a1 a2 bt220.1 bt223.1 bt223.2.1 true) else (if a1 > bt223.2.1 then (lookoutlaw12_LoghistWidths.j0 k a0 a1 a2 bt220.1 bt223.1 bt223.2.1 true) else (if 0 ≤ a0 then (lookoutlaw12_LoghistWidths.j0 k a0 a1 a2 bt220.1 bt223.1 bt223.2.1 (decide ((shl .i64 (wrap64 (bt223.2.1 - bt223.1)) a0) > bt223.1))) else (none)))) else (lookoutlaw12_LoghistWidths.j0 k a0 a1 a2 bt220.1 bt223.1 bt223.2.1 true))) else ((lookoutlaw12_awake.f k).bind fun t222 => (some t222)))
theorem lookoutlaw12_LoghistWidths.mono_l : ∀ k, (∀ y0 y1 y2 y3 y4 y5 y6, LeO (lookoutlaw12_LoghistWidths.j0 k y0 y1 y2 y3 y4 y5 y6) (lookoutlaw12_LoghistWidths.j0 (k + 1) y0 y1 y2 y3 y4 y5 y6)) ∧ (∀ y0 y1 y2 y3 y4 y5, LeO (lookoutlaw12_LoghistWidths.j1 k y0 y1 y2 y3 y4 y5) (lookoutlaw12_LoghistWidths.j1 (k + 1) y0 y1 y2 y3 y4 y5)) ∧ (∀ y0 y1 y2 y3 y4, LeO (lookoutlaw12_LoghistWidths.j2 k y0 y1 y2 y3 y4) (lookoutlaw12_LoghistWidths.j2 (k + 1) y0 y1 y2 y3 y4))
  | 0 => ⟨fun _ _ _ _ _ _ _ r h => by simp [lookoutlaw12_LoghistWidths.j0] at h, fun _ _ _ _ _ _ r h => by simp [lookoutlaw12_LoghistWidths.j1] at h, fun _ _ _ _ _ r h => by simp [lookoutlaw12_LoghistWidths.j2] at h⟩
  | k + 1 => by
    obtain ⟨ih0, ih1, ih2⟩ := lookoutlaw12_LoghistWidths.mono_l k
    refine ⟨?_, ?_, ?_⟩
    · intro y0 y1 y2 y3 y4 y5 y6
      unfold lookoutlaw12_LoghistWidths.j0
      repeat' first
      | (with_reducible exact ih0 _ _ _ _ _ _ _)
      | (with_reducible exact ih1 _ _ _ _ _ _)
      | (with_reducible exact ih2 _ _ _ _ _)
      | (with_reducible exact loghist_Bounds.mono _ _ _)
      | (with_reducible exact loghist_Index.mono _ _ _)
      | (with_reducible exact lookoutlaw12_awake.mono _)
      | (with_reducible exact LeO.refl _)
      | (with_reducible exact LeO.none _)
      | (with_reducible refine LeO.ite ?_ ?_)
      | (with_reducible refine LeO.bind ?_ (fun _ => ?_))
      | exact ih0 _ _ _ _ _ _ _
      | exact ih1 _ _ _ _ _ _
      | exact ih2 _ _ _ _ _
      | exact loghist_Bounds.mono _ _ _
      | exact loghist_Index.mono _ _ _
      | exact lookoutlaw12_awake.mono _
      | exact LeO.none _
      | refine LeO.ite ?_ ?_
      | refine LeO.bind ?_ (fun _ => ?_)
    · intro y0 y1 y2 y3 y4 y5
      unfold lookoutlaw12_LoghistWidths.j1
      repeat' first
      | (with_reducible exact ih0 _ _ _ _ _ _ _)
      | (with_reducible exact ih1 _ _ _ _ _ _)
      | (with_reducible exact ih2 _ _ _ _ _)
      | (with_reducible exact loghist_Bounds.mono _ _ _)
      | (with_reducible exact loghist_Index.mono _ _ _)
      | (with_reducible exact lookoutlaw12_awake.mono _)
      | (with_reducible exact LeO.refl _)
      | (with_reducible exact LeO.none _)
      | (with_reducible refine LeO.ite ?_ ?_)
      | (with_reducible refine LeO.bind ?_ (fun _ => ?_))
      | exact ih0 _ _ _ _ _ _ _
      | exact ih1 _ _ _ _ _ _
      | exact ih2 _ _ _ _ _
      | exact loghist_Bounds.mono _ _ _
      | exact loghist_Index.mono _ _ _
      | exact lookoutlaw12_awake.mono _
      | exact LeO.none _
      | refine LeO.ite ?_ ?_
      | refine LeO.bind ?_ (fun _ => ?_)
    · intro y0 y1 y2 y3 y4
      unfold lookoutlaw12_LoghistWidths.j2
      repeat' first
      | (with_reducible exact ih0 _ _ _ _ _ _ _)
      | (with_reducible exact ih1 _ _ _ _ _ _)
      | (with_reducible exact ih2 _ _ _ _ _)
      | (with_reducible exact loghist_Bounds.mono _ _ _)
      | (with_reducible exact loghist_Index.mono _ _ _)
      | (with_reducible exact lookoutlaw12_awake.mono _)
      | (with_reducible exact LeO.refl _)
      | (with_reducible exact LeO.none _)
      | (with_reducible refine LeO.ite ?_ ?_)
      | (with_reducible refine LeO.bind ?_ (fun _ => ?_))
      | exact ih0 _ _ _ _ _ _ _
      | exact ih1 _ _ _ _ _ _
      | exact ih2 _ _ _ _ _
      | exact loghist_Bounds.mono _ _ _
      | exact loghist_Index.mono _ _ _
      | exact lookoutlaw12_awake.mono _
      | exact LeO.none _
      | refine LeO.ite ?_ ?_
      | refine LeO.bind ?_ (fun _ => ?_)
theorem lookoutlaw12_LoghistWidths.mono : ∀ a0 a1 a2 k, LeO (lookoutlaw12_LoghistWidths.f k a0 a1 a2) (lookoutlaw12_LoghistWidths.f (k + 1) a0 a1 a2) := by
  intro a0 a1 a2 k
  obtain ⟨ih0, ih1, ih2⟩ := lookoutlaw12_LoghistWidths.mono_l k
  unfold lookoutlaw12_LoghistWidths.f
  repeat' first
      | (with_reducible exact ih0 _ _ _ _ _ _ _)
      | (with_reducible exact ih1 _ _ _ _ _ _)
      | (with_reducible exact ih2 _ _ _ _ _)
      | (with_reducible exact loghist_Bounds.mono _ _ _)
      | (with_reducible exact loghist_Index.mono _ _ _)
      | (with_reducible exact lookoutlaw12_awake.mono _)
      | (with_reducible exact LeO.refl _)
      | (with_reducible exact LeO.none _)
      | (with_reducible refine LeO.ite ?_ ?_)
      | (with_reducible refine LeO.bind ?_ (fun _ => ?_))
      | exact ih0 _ _ _ _ _ _ _
      | exact ih1 _ _ _ _ _ _
      | exact ih2 _ _ _ _ _
      | exact loghist_Bounds.mono _ _ _
      | exact loghist_Index.mono _ _ _
      | exact lookoutlaw12_awake.mono _
      | exact LeO.none _
      | refine LeO.ite ?_ ?_
      | refine LeO.bind ?_ (fun _ => ?_)
set_option maxHeartbeats 8000000 in
set_option maxRecDepth 100000 in
theorem lookoutlaw12_LoghistWidths.calls (k : Nat) (a0 : Int) (a1 : Int) (a2 : Int) (r : Bool) (w : World) (h : lookoutlaw12_LoghistWidths.f k a0 a1 a2 = some r) :
    Calls Try.prog 4 #[.int .i64 a0, .int .i64 a1, .int .i64 a2] w fun e w' => e = .returned (.bool r) ∧ Below w.heap.size w w' := by
  have HB := Aside0.mk (Below.refl w.heap.size w)
  have H : ((loghist_Index.f k a0 a1).bind fun bt220 => (if bt220.2 = 0 then ((loghist_Bounds.f k a0 bt220.1).bind fun bt223 => (if bt223.2.2 = 0 then (if a1 < bt223.1 then (lookoutlaw12_LoghistWidths.j0 k a0 a1 a2 bt220.1 bt223.1 bt223.2.1 true) else (if a1 > bt223.2.1 then (lookoutlaw12_LoghistWidths.j0 k a0 a1 a2 bt220.1 bt223.1 bt223.2.1 true) else (if 0 ≤ a0 then (lookoutlaw12_LoghistWidths.j0 k a0 a1 a2 bt220.1 bt223.1 bt223.2.1 (decide ((shl .i64 (wrap64 (bt223.2.1 - bt223.1)) a0) > bt223.1))) else (none)))) else (lookoutlaw12_LoghistWidths.j0 k a0 a1 a2 bt220.1 bt223.1 bt223.2.1 true))) else ((lookoutlaw12_awake.f k).bind fun t222 => (some t222)))) = some r := h
  clear h
  replace H := Option.bind_eq_some_iff.mp H
  obtain ⟨⟨t220, t221⟩, A40, H⟩ := H
  replace H : (if t221 = 0 then ((loghist_Bounds.f k a0 t220).bind fun bt223 => (if bt223.2.2 = 0 then (if a1 < bt223.1 then (lookoutlaw12_LoghistWidths.j0 k a0 a1 a2 t220 bt223.1 bt223.2.1 true) else (if a1 > bt223.2.1 then (lookoutlaw12_LoghistWidths.j0 k a0 a1 a2 t220 bt223.1 bt223.2.1 true) else (if 0 ≤ a0 then (lookoutlaw12_LoghistWidths.j0 k a0 a1 a2 t220 bt223.1 bt223.2.1 (decide ((shl .i64 (wrap64 (bt223.2.1 - bt223.1)) a0) > bt223.1))) else (none)))) else (lookoutlaw12_LoghistWidths.j0 k a0 a1 a2 t220 bt223.1 bt223.2.1 true))) else ((lookoutlaw12_awake.f k).bind fun t222 => (some t222))) = some r := H
  have A4 := Aside0.mk A40
  clear A40
  by_cases c5 : t221 = 0
  · rw [if_pos c5] at H
    have c5b0 : (t221 == 0) = true := beq_iff_eq.mpr c5
    have c5b1 : (t221 != 0) = false := bne_eq_false_iff_eq.mpr c5
    clear c5
    replace H := Option.bind_eq_some_iff.mp H
    obtain ⟨⟨t223, t224, t225⟩, A60, H⟩ := H
    replace H : (if t225 = 0 then (if a1 < t223 then (lookoutlaw12_LoghistWidths.j0 k a0 a1 a2 t220 t223 t224 true) else (if a1 > t224 then (lookoutlaw12_LoghistWidths.j0 k a0 a1 a2 t220 t223 t224 true) else (if 0 ≤ a0 then (lookoutlaw12_LoghistWidths.j0 k a0 a1 a2 t220 t223 t224 (decide ((shl .i64 (wrap64 (t224 - t223)) a0) > t223))) else (none)))) else (lookoutlaw12_LoghistWidths.j0 k a0 a1 a2 t220 t223 t224 true)) = some r := H
    have A6 := Aside0.mk A60
    clear A60
    have HC7 := Aside0.mk H
    clear H
    go_enter Try.func4, Try.ntmps4
    go_upto_region 5 with (first | ((with_reducible refine gate_callee (f := 12) rfl ?_); refine goesL_ (some 23) rfl rfl Try.func12 (by kernel_rfl) rfl #[.int .i64 a0, .int .i64 a1] rfl (by (try simp only [List.map_toArray, List.map_cons, List.map_nil]); first | done | rfl | (simp only [List.length_drop, List.length_take]; rfl)) ?_; (with_reducible refine (loghist_Index.calls k a0 a1 t220 t221 _ A4.out).mono ?_); rintro e w' ⟨rfl, ⟨nd, rfl⟩⟩; refine ⟨_, rfl, ?_⟩) | ((with_reducible refine gate_callee (f := 14) rfl ?_); refine goesL_ (some 32) rfl rfl Try.func14 (by kernel_rfl) rfl #[.int .i64 a0, .int .i64 t220] rfl (by (try simp only [List.map_toArray, List.map_cons, List.map_nil]); first | done | rfl | (simp only [List.length_drop, List.length_take]; rfl)) ?_; (with_reducible refine (loghist_Bounds.calls k a0 t220 t223 t224 t225 _ A6.out).mono ?_); rintro e w8 ⟨rfl, hb⟩; refine ⟨_, rfl, ?_⟩; have n0_ := Aside0.mk (below_step (by repeat (first | (with_reducible first | exact HB.out | apply below_alloc | apply pw_below_drewN | apply below_drew1) | exact HB.out)) hb); clear HB; have HB := n0_; clear n0_; (try clear hb); (try clear hb2); (try clear hk); (try clear hi)))
    (try simp only [Act.put, List.setIfInBounds_toArray, List.set_cons_zero, List.set_cons_succ])
    go_cut [56] (fun v56 wc => ∃ (kq : Nat) (x56_6 : Bool), v56 = .bool x56_6 ∧ Aside0 (lookoutlaw12_LoghistWidths.j0 kq a0 a1 a2 t220 t223 t224 x56_6 = some r) ∧ Aside0 (kq ≤ k) ∧ Aside0 (Below w.heap.size w wc))
    case first =>
      have H := HC7.out
      clear HC7
      by_cases c9 : t225 = 0
      · rw [if_pos c9] at H
        have c9b0 : (t225 == 0) = true := beq_iff_eq.mpr c9
        have c9b1 : (t225 != 0) = false := bne_eq_false_iff_eq.mpr c9
        clear c9
        (first | rw [c9b0] | (simp only [i64_w, i32_w]; rw [c9b0]) | rw [c9b1] | (simp only [i64_w, i32_w]; rw [c9b1]) | skip)
        by_cases c10 : a1 < t223
        · rw [if_pos c10] at H
          have c10b0 : decide (a1 < t223) = true := decide_eq_true c10
          clear c10
          have H' := Aside0.mk H
          clear H
          go_wp2
          go_meet
          case rel => exact ⟨_, (true), (by first | rfl | (simp; done) | (simp [*]; done)), H', ⟨by first | omega | exact Nat.le_refl _⟩, ⟨by repeat (first | (with_reducible first | exact HB.out | apply below_alloc | apply pw_below_drewN | apply below_drew1) | exact HB.out)⟩⟩
        · rw [if_neg c10] at H
          have c10b0 : decide (a1 < t223) = false := decide_eq_false c10
          clear c10
          by_cases c11 : a1 > t224
          · rw [if_pos c11] at H
            have c11b0 : decide (t224 < a1) = true := decide_eq_true c11
            clear c11
            have H' := Aside0.mk H
            clear H
            go_wp2
            go_meet
            case rel => exact ⟨_, (true), (by first | rfl | (simp; done) | (simp [*]; done)), H', ⟨by first | omega | exact Nat.le_refl _⟩, ⟨by repeat (first | (with_reducible first | exact HB.out | apply below_alloc | apply pw_below_drewN | apply below_drew1) | exact HB.out)⟩⟩
          · rw [if_neg c11] at H
            have c11b0 : decide (t224 < a1) = false := decide_eq_false c11
            clear c11
            by_cases c12 : 0 ≤ a0
            · rw [if_pos c12] at H
              have c12b0 := eq_true c12
              have c12b1 : decide (0 ≤ a0) = true := decide_eq_true c12
              clear c12
              obtain ⟨ji13, hji13⟩ : ∃ j_ : Int, (shl .i64 (wrap64 (t224 - t223)) a0) = j_ := ⟨_, rfl⟩
              replace H : (lookoutlaw12_LoghistWidths.j0 k a0 a1 a2 t220 t223 t224 (decide ((ji13) > t223))) = some r := by first | (rw [hji13] at H; exact H) | (simp only [hji13] at H ⊢; exact H)
              have hji13_ : (IntKind.i64.wrap ((wrap64 (t224 - t223)) * 2 ^ min a0.toNat 64)) = ji13 := hji13
              have hji13z : a0 ≤ 64 → (IntKind.i64.wrap ((wrap64 (t224 - t223)) * 2 ^ a0.toNat)) = ji13 := shl_small hji13
              have hji13y : (wrap64 ((wrap64 (t224 - t223)) * 2 ^ min a0.toNat 64)) = ji13 := (i64_w _).symm.trans hji13_
              have hji13x : a0 ≤ 64 → (wrap64 ((wrap64 (t224 - t223)) * 2 ^ a0.toNat)) = ji13 := fun h_ => (i64_w _).symm.trans (hji13z h_)
              have H' := Aside0.mk H
              clear H
              go_wp2
              go_meet
              case rel => exact ⟨_, (decide ((ji13) > t223)), (by first | rfl | (simp; done) | (simp only [← hji13] <;> (first | rfl | simp)) | (simp [*]; done)), H', ⟨by first | omega | exact Nat.le_refl _⟩, ⟨by repeat (first | (with_reducible first | exact HB.out | apply below_alloc | apply pw_below_drewN | apply below_drew1) | exact HB.out)⟩⟩
            · rw [if_neg c12] at H
              exact absurd H (by simp)
      · rw [if_neg c9] at H
        have c9b0 : (t225 == 0) = false := beq_eq_false_iff_ne.mpr c9
        have c9b1 : (t225 != 0) = true := bne_iff_ne.mpr c9
        (first | rw [c9b0] | (simp only [i64_w, i32_w]; rw [c9b0]) | rw [c9b1] | (simp only [i64_w, i32_w]; rw [c9b1]) | skip)
        have H' := Aside0.mk H
        clear H
        go_wp2
        go_meet
        case rel => exact ⟨_, (true), (by first | rfl | (simp; done) | (simp [*]; done)), H', ⟨by first | omega | exact Nat.le_refl _⟩, ⟨by repeat (first | (with_reducible first | exact HB.out | apply below_alloc | apply pw_below_drewN | apply below_drew1) | exact HB.out)⟩⟩
    case rest =>
      clear HC7
      try clear c1
      try clear p2
      try clear c4
      try clear c5
      try clear c5b0
      try clear c5b1
      try clear p6
      try clear c9
      try clear c9b0
      try clear c9b1
      try clear c10
      try clear c10b0
      try clear c11
      try clear c11b0
      try clear c12
      try clear c12b0
      try clear c12b1
      obtain ⟨kq, x56_6, rfl, HA, HJ6, HB⟩ := hcut
      cases kq with
      | zero => exact absurd HA.out (by simp [lookoutlaw12_LoghistWidths.j0])
      | succ kj6 =>
        have H := HA.out
        clear HA
        simp only [lookoutlaw12_LoghistWidths.j0] at H
        by_cases c14 : x56_6 = true
        · subst c14
          have H1 : (none) = some r := by rw [if_pos rfl] at H; exact H
          clear H
          have H := H1
          clear H1
          exact absurd H (by simp)
        · replace c14 := Bool.eq_false_iff.mpr c14
          subst c14
          have H1 : ((loghist_Bounds.f kj6 a0 (wrap64 (t220 - 1))).bind fun bt226 => (if t220 > 0 then (if bt226.2.2 = 0 then (if bt226.2.1 = (wrap64 (t223 - 1)) then (if t220 = 0 then (lookoutlaw12_LoghistWidths.j1 kj6 a0 a1 a2 t220 t224 (t223 != 0)) else (lookoutlaw12_LoghistWidths.j1 kj6 a0 a1 a2 t220 t224 false)) else (lookoutlaw12_LoghistWidths.j1 kj6 a0 a1 a2 t220 t224 true)) else (lookoutlaw12_LoghistWidths.j1 kj6 a0 a1 a2 t220 t224 true)) else (if t220 = 0 then (lookoutlaw12_LoghistWidths.j1 kj6 a0 a1 a2 t220 t224 (t223 != 0)) else (lookoutlaw12_LoghistWidths.j1 kj6 a0 a1 a2 t220 t224 false)))) = some r := by rw [if_neg (show ¬ (false = true) by decide)] at H; exact H
          clear H
          have H := H1
          clear H1
          replace H := Option.bind_eq_some_iff.mp H
          obtain ⟨⟨t226, t227, t228⟩, A150, H⟩ := H
          replace H : (if t220 > 0 then (if t228 = 0 then (if t227 = (wrap64 (t223 - 1)) then (if t220 = 0 then (lookoutlaw12_LoghistWidths.j1 kj6 a0 a1 a2 t220 t224 (t223 != 0)) else (lookoutlaw12_LoghistWidths.j1 kj6 a0 a1 a2 t220 t224 false)) else (lookoutlaw12_LoghistWidths.j1 kj6 a0 a1 a2 t220 t224 true)) else (lookoutlaw12_LoghistWidths.j1 kj6 a0 a1 a2 t220 t224 true)) else (if t220 = 0 then (lookoutlaw12_LoghistWidths.j1 kj6 a0 a1 a2 t220 t224 (t223 != 0)) else (lookoutlaw12_LoghistWidths.j1 kj6 a0 a1 a2 t220 t224 false))) = some r := H
          have A15 := Aside0.mk A150
          clear A150
          have HC16 := Aside0.mk H
          clear H
          go_upto_region 8 with (first | ((with_reducible refine gate_callee (f := 14) rfl ?_); refine goesL_ (some 61) rfl rfl Try.func14 (by kernel_rfl) rfl #[.int .i64 a0, .int .i64 (wrap64 (t220 - 1))] rfl (by (try simp only [List.map_toArray, List.map_cons, List.map_nil]); first | done | rfl | (simp only [List.length_drop, List.length_take]; rfl)) ?_; (with_reducible refine (loghist_Bounds.calls kj6 a0 (wrap64 (t220 - 1)) t226 t227 t228 _ A15.out).mono ?_); rintro e w17 ⟨rfl, hb⟩; refine ⟨_, rfl, ?_⟩; have n0_ := Aside0.mk (below_step (by repeat (first | (with_reducible first | exact HB.out | apply below_alloc | apply pw_below_drewN | apply below_drew1) | exact HB.out)) hb); clear HB; have HB := n0_; clear n0_; (try clear hb); (try clear hb2); (try clear hk); (try clear hi)))
          (try simp only [Act.put, List.setIfInBounds_toArray, List.set_cons_zero, List.set_cons_succ])
          go_cut [84] (fun v84 wc => ∃ (kq : Nat) (x84_15 : Bool), v84 = .bool x84_15 ∧ Aside0 (lookoutlaw12_LoghistWidths.j1 kq a0 a1 a2 t220 t224 x84_15 = some r) ∧ Aside0 (kq ≤ kj6) ∧ Aside0 (Below w.heap.size w wc))
          case first =>
            have H := HC16.out
            clear HC16
            by_cases c18 : t220 > 0
            · rw [if_pos c18] at H
              have c18b0 : decide (0 < t220) = true := decide_eq_true c18
              clear c18
              (first | rw [c18b0] | (simp only [i64_w, i32_w]; rw [c18b0]) | rw [c18b1] | (simp only [i64_w, i32_w]; rw [c18b1]) | skip)
              by_cases c19 : t228 = 0
              · rw [if_pos c19] at H
                have c19b0 : (t228 == 0) = true := beq_iff_eq.mpr c19
                have c19b1 : (t228 != 0) = false := bne_eq_false_iff_eq.mpr c19
                clear c19
                by_cases c20 : t227 = (wrap64 (t223 - 1))
                · rw [if_pos c20] at H
                  have c20b0 : (t227 == (wrap64 (t223 - 1))) = true := beq_iff_eq.mpr c20
                  have c20b1 : (t227 != (wrap64 (t223 - 1))) = false := bne_eq_false_iff_eq.mpr c20
                  clear c20
                  by_cases c21 : t220 = 0
                  · rw [if_pos c21] at H
                    have c21b0 : (t220 == 0) = true := beq_iff_eq.mpr c21
                    have c21b1 : (t220 != 0) = false := bne_eq_false_iff_eq.mpr c21
                    clear c21
                    have H' := Aside0.mk H
                    clear H
                    go_wp2
                    go_meet
                    case rel => exact ⟨_, ((t223 != 0)), (by first | rfl | (simp; done) | (simp [*]; done)), H', ⟨by have := HJ6.out; first | omega | exact Nat.le_refl _⟩, ⟨by repeat (first | (with_reducible first | exact HB.out | apply below_alloc | apply pw_below_drewN | apply below_drew1) | exact HB.out)⟩⟩
                  · rw [if_neg c21] at H
                    have c21b0 : (t220 == 0) = false := beq_eq_false_iff_ne.mpr c21
                    have c21b1 : (t220 != 0) = true := bne_iff_ne.mpr c21
                    have H' := Aside0.mk H
                    clear H
                    go_wp2
                    go_meet
                    case rel => exact ⟨_, (false), (by first | rfl | (simp; done) | (simp [*]; done)), H', ⟨by have := HJ6.out; first | omega | exact Nat.le_refl _⟩, ⟨by repeat (first | (with_reducible first | exact HB.out | apply below_alloc | apply pw_below_drewN | apply below_drew1) | exact HB.out)⟩⟩
                · rw [if_neg c20] at H
                  have c20b0 : (t227 == (wrap64 (t223 - 1))) = false := beq_eq_false_iff_ne.mpr c20
                  have c20b1 : (t227 != (wrap64 (t223 - 1))) = true := bne_iff_ne.mpr c20
                  have H' := Aside0.mk H
                  clear H
                  go_wp2
                  go_meet
                  case rel => exact ⟨_, (true), (by first | rfl | (simp; done) | (simp [*]; done)), H', ⟨by have := HJ6.out; first | omega | exact Nat.le_refl _⟩, ⟨by repeat (first | (with_reducible first | exact HB.out | apply below_alloc | apply pw_below_drewN | apply below_drew1) | exact HB.out)⟩⟩
              · rw [if_neg c19] at H
                have c19b0 : (t228 == 0) = false := beq_eq_false_iff_ne.mpr c19
                have c19b1 : (t228 != 0) = true := bne_iff_ne.mpr c19
                have H' := Aside0.mk H
                clear H
                go_wp2
                go_meet
                case rel => exact ⟨_, (true), (by first | rfl | (simp; done) | (simp [*]; done)), H', ⟨by have := HJ6.out; first | omega | exact Nat.le_refl _⟩, ⟨by repeat (first | (with_reducible first | exact HB.out | apply below_alloc | apply pw_below_drewN | apply below_drew1) | exact HB.out)⟩⟩
            · rw [if_neg c18] at H
              have c18b0 : decide (0 < t220) = false := decide_eq_false c18
              clear c18
              (first | rw [c18b0] | (simp only [i64_w, i32_w]; rw [c18b0]) | rw [c18b1] | (simp only [i64_w, i32_w]; rw [c18b1]) | skip)
              by_cases c22 : t220 = 0
              · rw [if_pos c22] at H
                have c22b0 : (t220 == 0) = true := beq_iff_eq.mpr c22
                have c22b1 : (t220 != 0) = false := bne_eq_false_iff_eq.mpr c22
                clear c22
                have H' := Aside0.mk H
                clear H
                go_wp2
                go_meet
                case rel => exact ⟨_, ((t223 != 0)), (by first | rfl | (simp; done) | (simp [*]; done)), H', ⟨by have := HJ6.out; first | omega | exact Nat.le_refl _⟩, ⟨by repeat (first | (with_reducible first | exact HB.out | apply below_alloc | apply pw_below_drewN | apply below_drew1) | exact HB.out)⟩⟩
              · rw [if_neg c22] at H
                have c22b0 : (t220 == 0) = false := beq_eq_false_iff_ne.mpr c22
                have c22b1 : (t220 != 0) = true := bne_iff_ne.mpr c22
                have H' := Aside0.mk H
                clear H
                go_wp2
                go_meet
                case rel => exact ⟨_, (false), (by first | rfl | (simp; done) | (simp [*]; done)), H', ⟨by have := HJ6.out; first | omega | exact Nat.le_refl _⟩, ⟨by repeat (first | (with_reducible first | exact HB.out | apply below_alloc | apply pw_below_drewN | apply below_drew1) | exact HB.out)⟩⟩
          case rest =>
            clear HC16
            try clear c1
            try clear c2
            try clear p2
            try clear c4
            try clear c5
            try clear c5b0
            try clear c5b1
            try clear p6
            try clear c9
            try clear c9b0
            try clear c9b1
            try clear c10
            try clear c10b0
            try clear c11
            try clear c11b0
            try clear c12
            try clear c12b0
            try clear c12b1
            try clear c14
            try clear c18
            try clear c18b0
            try clear c18b1
            try clear c19
            try clear c19b0
            try clear c19b1
            try clear c20
            try clear c20b0
            try clear c20b1
            try clear c21
            try clear c21b0
            try clear c21b1
            try clear c22
            try clear c22b0
            try clear c22b1
            try clear p2
            try clear p6
            obtain ⟨kq, x84_15, rfl, HA, HJ15, HB⟩ := hcut
            cases kq with
            | zero => exact absurd HA.out (by simp [lookoutlaw12_LoghistWidths.j1])
            | succ kj15 =>
              have H := HA.out
              clear HA
              simp only [lookoutlaw12_LoghistWidths.j1] at H
              by_cases c23 : x84_15 = true
              · subst c23
                have H1 : (none) = some r := by rw [if_pos rfl] at H; exact H
                clear H
                have H := H1
                clear H1
                exact absurd H (by simp)
              · replace c23 := Bool.eq_false_iff.mpr c23
                subst c23
                have H1 : ((loghist_Bounds.f kj15 a0 (wrap64 (t220 + 1))).bind fun bt229 => (if bt229.2.2 = 0 then (if bt229.1 = (wrap64 (t224 + 1)) then (lookoutlaw12_LoghistWidths.j2 kj15 a0 a1 a2 t220 false) else (lookoutlaw12_LoghistWidths.j2 kj15 a0 a1 a2 t220 true)) else (lookoutlaw12_LoghistWidths.j2 kj15 a0 a1 a2 t220 (t224 != 1099511627776)))) = some r := by rw [if_neg (show ¬ (false = true) by decide)] at H; exact H
                clear H
                have H := H1
                clear H1
                replace H := Option.bind_eq_some_iff.mp H
                obtain ⟨⟨t229, t230, t231⟩, A240, H⟩ := H
                replace H : (if t231 = 0 then (if t229 = (wrap64 (t224 + 1)) then (lookoutlaw12_LoghistWidths.j2 kj15 a0 a1 a2 t220 false) else (lookoutlaw12_LoghistWidths.j2 kj15 a0 a1 a2 t220 true)) else (lookoutlaw12_LoghistWidths.j2 kj15 a0 a1 a2 t220 (t224 != 1099511627776))) = some r := H
                have A24 := Aside0.mk A240
                clear A240
                have HC25 := Aside0.mk H
                clear H
                go_upto_region 11 with (first | ((with_reducible refine gate_callee (f := 14) rfl ?_); refine goesL_ (some 89) rfl rfl Try.func14 (by kernel_rfl) rfl #[.int .i64 a0, .int .i64 (wrap64 (t220 + 1))] rfl (by (try simp only [List.map_toArray, List.map_cons, List.map_nil]); first | done | rfl | (simp only [List.length_drop, List.length_take]; rfl)) ?_; (with_reducible refine (loghist_Bounds.calls kj15 a0 (wrap64 (t220 + 1)) t229 t230 t231 _ A24.out).mono ?_); rintro e w26 ⟨rfl, hb⟩; refine ⟨_, rfl, ?_⟩; have n0_ := Aside0.mk (below_step (by repeat (first | (with_reducible first | exact HB.out | apply below_alloc | apply pw_below_drewN | apply below_drew1) | exact HB.out)) hb); clear HB; have HB := n0_; clear n0_; (try clear hb); (try clear hb2); (try clear hk); (try clear hi)))
                (try simp only [Act.put, List.setIfInBounds_toArray, List.set_cons_zero, List.set_cons_succ])
                go_cut [108] (fun v108 wc => ∃ (kq : Nat) (x108_24 : Bool), v108 = .bool x108_24 ∧ Aside0 (lookoutlaw12_LoghistWidths.j2 kq a0 a1 a2 t220 x108_24 = some r) ∧ Aside0 (kq ≤ kj15) ∧ Aside0 (Below w.heap.size w wc))
                case first =>
                  have H := HC25.out
                  clear HC25
                  by_cases c27 : t231 = 0
                  · rw [if_pos c27] at H
                    have c27b0 : (t231 == 0) = true := beq_iff_eq.mpr c27
                    have c27b1 : (t231 != 0) = false := bne_eq_false_iff_eq.mpr c27
                    clear c27
                    (first | rw [c27b0] | (simp only [i64_w, i32_w]; rw [c27b0]) | rw [c27b1] | (simp only [i64_w, i32_w]; rw [c27b1]) | skip)
                    by_cases c28 : t229 = (wrap64 (t224 + 1))
                    · rw [if_pos c28] at H
                      have c28b0 : (t229 == (wrap64 (t224 + 1))) = true := beq_iff_eq.mpr c28
                      have c28b1 : (t229 != (wrap64 (t224 + 1))) = false := bne_eq_false_iff_eq.mpr c28
                      clear c28
                      have H' := Aside0.mk H
                      clear H
                      go_wp2
                      go_meet
                      case rel => exact ⟨_, (false), (by first | rfl | (simp; done) | (simp [*]; done)), H', ⟨by have := HJ6.out; have := HJ15.out; first | omega | exact Nat.le_refl _⟩, ⟨by repeat (first | (with_reducible first | exact HB.out | apply below_alloc | apply pw_below_drewN | apply below_drew1) | exact HB.out)⟩⟩
                    · rw [if_neg c28] at H
                      have c28b0 : (t229 == (wrap64 (t224 + 1))) = false := beq_eq_false_iff_ne.mpr c28
                      have c28b1 : (t229 != (wrap64 (t224 + 1))) = true := bne_iff_ne.mpr c28
                      have H' := Aside0.mk H
                      clear H
                      go_wp2
                      go_meet
                      case rel => exact ⟨_, (true), (by first | rfl | (simp; done) | (simp [*]; done)), H', ⟨by have := HJ6.out; have := HJ15.out; first | omega | exact Nat.le_refl _⟩, ⟨by repeat (first | (with_reducible first | exact HB.out | apply below_alloc | apply pw_below_drewN | apply below_drew1) | exact HB.out)⟩⟩
                  · rw [if_neg c27] at H
                    have c27b0 : (t231 == 0) = false := beq_eq_false_iff_ne.mpr c27
                    have c27b1 : (t231 != 0) = true := bne_iff_ne.mpr c27
                    (first | rw [c27b0] | (simp only [i64_w, i32_w]; rw [c27b0]) | rw [c27b1] | (simp only [i64_w, i32_w]; rw [c27b1]) | skip)
                    have H' := Aside0.mk H
                    clear H
                    go_wp2
                    go_meet
                    case rel => exact ⟨_, ((t224 != 1099511627776)), (by first | rfl | (simp; done) | (simp [*]; done)), H', ⟨by have := HJ6.out; have := HJ15.out; first | omega | exact Nat.le_refl _⟩, ⟨by repeat (first | (with_reducible first | exact HB.out | apply below_alloc | apply pw_below_drewN | apply below_drew1) | exact HB.out)⟩⟩
                case rest =>
                  clear HC25
                  try clear c1
                  try clear c2
                  try clear p2
                  try clear c4
                  try clear c5
                  try clear c5b0
                  try clear c5b1
                  try clear p6
                  try clear c9
                  try clear c9b0
                  try clear c9b1
                  try clear c10
                  try clear c10b0
                  try clear c11
                  try clear c11b0
                  try clear c12
                  try clear c12b0
                  try clear c12b1
                  try clear c14
                  try clear c18
                  try clear c18b0
                  try clear c18b1
                  try clear c19
                  try clear c19b0
                  try clear c19b1
                  try clear c20
                  try clear c20b0
                  try clear c20b1
                  try clear c21
                  try clear c21b0
                  try clear c21b1
                  try clear c22
                  try clear c22b0
                  try clear c22b1
                  try clear c23
                  try clear c27
                  try clear c27b0
                  try clear c27b1
                  try clear c28
                  try clear c28b0
                  try clear c28b1
                  try clear p2
                  try clear p6
                  obtain ⟨kq, x108_24, rfl, HA, HJ24, HB⟩ := hcut
                  cases kq with
                  | zero => exact absurd HA.out (by simp [lookoutlaw12_LoghistWidths.j2])
                  | succ kj24 =>
                    have H := HA.out
                    clear HA
                    simp only [lookoutlaw12_LoghistWidths.j2] at H
                    by_cases c29 : x108_24 = true
                    · subst c29
                      have H1 : (none) = some r := by rw [if_pos rfl] at H; exact H
                      clear H
                      have H := H1
                      clear H1
                      exact absurd H (by simp)
                    · replace c29 := Bool.eq_false_iff.mpr c29
                      subst c29
                      have H1 : ((loghist_Index.f kj24 a0 a2).bind fun bt232 => (if bt232.2 = 0 then (if a2 ≥ a1 then (if a2 ≤ a1 then ((lookoutlaw12_awake.f kj24).bind fun t234 => (some t234)) else (if bt232.1 ≥ t220 then ((lookoutlaw12_awake.f kj24).bind fun t235 => (some t235)) else (none))) else (if bt232.1 ≤ t220 then (if a2 ≤ a1 then ((lookoutlaw12_awake.f kj24).bind fun t236 => (some t236)) else (if bt232.1 ≥ t220 then ((lookoutlaw12_awake.f kj24).bind fun t237 => (some t237)) else (none))) else (none))) else ((lookoutlaw12_awake.f kj24).bind fun t238 => (some t238)))) = some r := by rw [if_neg (show ¬ (false = true) by decide)] at H; exact H
                      clear H
                      have H := H1
                      clear H1
                      replace H := Option.bind_eq_some_iff.mp H
                      obtain ⟨⟨t232, t233⟩, A300, H⟩ := H
                      replace H : (if t233 = 0 then (if a2 ≥ a1 then (if a2 ≤ a1 then ((lookoutlaw12_awake.f kj24).bind fun t234 => (some t234)) else (if t232 ≥ t220 then ((lookoutlaw12_awake.f kj24).bind fun t235 => (some t235)) else (none))) else (if t232 ≤ t220 then (if a2 ≤ a1 then ((lookoutlaw12_awake.f kj24).bind fun t236 => (some t236)) else (if t232 ≥ t220 then ((lookoutlaw12_awake.f kj24).bind fun t237 => (some t237)) else (none))) else (none))) else ((lookoutlaw12_awake.f kj24).bind fun t238 => (some t238))) = some r := H
                      have A30 := Aside0.mk A300
                      clear A300
                      by_cases c31 : t233 = 0
                      · rw [if_pos c31] at H
                        have c31b0 : (t233 == 0) = true := beq_iff_eq.mpr c31
                        have c31b1 : (t233 != 0) = false := bne_eq_false_iff_eq.mpr c31
                        clear c31
                        by_cases c32 : a2 ≥ a1
                        · rw [if_pos c32] at H
                          have c32b0 : decide (a1 ≤ a2) = true := decide_eq_true c32
                          clear c32
                          by_cases c33 : a2 ≤ a1
                          · rw [if_pos c33] at H
                            have c33b0 : decide (a2 ≤ a1) = true := decide_eq_true c33
                            clear c33
                            replace H := Option.bind_eq_some_iff.mp H
                            obtain ⟨t234, A340, H⟩ := H
                            replace H : (some t234) = some r := H
                            have A34 := Aside0.mk A340
                            clear A340
                            obtain rfl := Option.some.inj H
                            go_wp2_with (first | ((with_reducible refine gate_callee (f := 12) rfl ?_); refine goesL_ (some 112) rfl rfl Try.func12 (by kernel_rfl) rfl #[.int .i64 a0, .int .i64 a2] rfl (by (try simp only [List.map_toArray, List.map_cons, List.map_nil]); first | done | rfl | (simp only [List.length_drop, List.length_take]; rfl)) ?_; (with_reducible refine (loghist_Index.calls kj24 a0 a2 t232 t233 _ A30.out).mono ?_); rintro e w' ⟨rfl, ⟨nd, rfl⟩⟩; refine ⟨_, rfl, ?_⟩) | (go_at_call 19; (with_reducible refine (lookoutlaw12_awake.calls kj24  t234 _ A34.out).mono ?_); rintro e w35 ⟨rfl, hb⟩; have n0_ := Aside0.mk (below_step (by repeat (first | (with_reducible first | exact HB.out | apply below_alloc | apply pw_below_drewN | apply below_drew1) | exact HB.out)) hb); clear HB; have HB := n0_; clear n0_; (try clear hb); (try clear hb2); (try clear hk); (try clear hi)))
                            go_ret
                            exact ⟨by first | rfl | (simp [errW_none, errW_some] <;> rfl) | (simp [*, errW_none, errW_some] <;> rfl), by repeat (first | (with_reducible first | exact HB.out | apply below_alloc | apply pw_below_drewN | apply below_drew1) | exact HB.out)⟩
                          · rw [if_neg c33] at H
                            have c33b0 : decide (a2 ≤ a1) = false := decide_eq_false c33
                            clear c33
                            by_cases c36 : t232 ≥ t220
                            · rw [if_pos c36] at H
                              have c36b0 : decide (t220 ≤ t232) = true := decide_eq_true c36
                              clear c36
                              replace H := Option.bind_eq_some_iff.mp H
                              obtain ⟨t235, A370, H⟩ := H
                              replace H : (some t235) = some r := H
                              have A37 := Aside0.mk A370
                              clear A370
                              obtain rfl := Option.some.inj H
                              go_wp2_with (first | ((with_reducible refine gate_callee (f := 12) rfl ?_); refine goesL_ (some 112) rfl rfl Try.func12 (by kernel_rfl) rfl #[.int .i64 a0, .int .i64 a2] rfl (by (try simp only [List.map_toArray, List.map_cons, List.map_nil]); first | done | rfl | (simp only [List.length_drop, List.length_take]; rfl)) ?_; (with_reducible refine (loghist_Index.calls kj24 a0 a2 t232 t233 _ A30.out).mono ?_); rintro e w' ⟨rfl, ⟨nd, rfl⟩⟩; refine ⟨_, rfl, ?_⟩) | (go_at_call 19; (with_reducible refine (lookoutlaw12_awake.calls kj24  t235 _ A37.out).mono ?_); rintro e w38 ⟨rfl, hb⟩; have n0_ := Aside0.mk (below_step (by repeat (first | (with_reducible first | exact HB.out | apply below_alloc | apply pw_below_drewN | apply below_drew1) | exact HB.out)) hb); clear HB; have HB := n0_; clear n0_; (try clear hb); (try clear hb2); (try clear hk); (try clear hi)))
                              go_ret
                              exact ⟨by first | rfl | (simp [errW_none, errW_some] <;> rfl) | (simp [*, errW_none, errW_some] <;> rfl), by repeat (first | (with_reducible first | exact HB.out | apply below_alloc | apply pw_below_drewN | apply below_drew1) | exact HB.out)⟩
                            · rw [if_neg c36] at H
                              exact absurd H (by simp)
                        · rw [if_neg c32] at H
                          have c32b0 : decide (a1 ≤ a2) = false := decide_eq_false c32
                          clear c32
                          by_cases c39 : t232 ≤ t220
                          · rw [if_pos c39] at H
                            have c39b0 : decide (t232 ≤ t220) = true := decide_eq_true c39
                            clear c39
                            by_cases c40 : a2 ≤ a1
                            · rw [if_pos c40] at H
                              have c40b0 : decide (a2 ≤ a1) = true := decide_eq_true c40
                              clear c40
                              replace H := Option.bind_eq_some_iff.mp H
                              obtain ⟨t236, A410, H⟩ := H
                              replace H : (some t236) = some r := H
                              have A41 := Aside0.mk A410
                              clear A410
                              obtain rfl := Option.some.inj H
                              go_wp2_with (first | ((with_reducible refine gate_callee (f := 12) rfl ?_); refine goesL_ (some 112) rfl rfl Try.func12 (by kernel_rfl) rfl #[.int .i64 a0, .int .i64 a2] rfl (by (try simp only [List.map_toArray, List.map_cons, List.map_nil]); first | done | rfl | (simp only [List.length_drop, List.length_take]; rfl)) ?_; (with_reducible refine (loghist_Index.calls kj24 a0 a2 t232 t233 _ A30.out).mono ?_); rintro e w' ⟨rfl, ⟨nd, rfl⟩⟩; refine ⟨_, rfl, ?_⟩) | (go_at_call 19; (with_reducible refine (lookoutlaw12_awake.calls kj24  t236 _ A41.out).mono ?_); rintro e w42 ⟨rfl, hb⟩; have n0_ := Aside0.mk (below_step (by repeat (first | (with_reducible first | exact HB.out | apply below_alloc | apply pw_below_drewN | apply below_drew1) | exact HB.out)) hb); clear HB; have HB := n0_; clear n0_; (try clear hb); (try clear hb2); (try clear hk); (try clear hi)))
                              go_ret
                              exact ⟨by first | rfl | (simp [errW_none, errW_some] <;> rfl) | (simp [*, errW_none, errW_some] <;> rfl), by repeat (first | (with_reducible first | exact HB.out | apply below_alloc | apply pw_below_drewN | apply below_drew1) | exact HB.out)⟩
                            · rw [if_neg c40] at H
                              have c40b0 : decide (a2 ≤ a1) = false := decide_eq_false c40
                              clear c40
                              by_cases c43 : t232 ≥ t220
                              · rw [if_pos c43] at H
                                have c43b0 : decide (t220 ≤ t232) = true := decide_eq_true c43
                                clear c43
                                replace H := Option.bind_eq_some_iff.mp H
                                obtain ⟨t237, A440, H⟩ := H
                                replace H : (some t237) = some r := H
                                have A44 := Aside0.mk A440
                                clear A440
                                obtain rfl := Option.some.inj H
                                go_wp2_with (first | ((with_reducible refine gate_callee (f := 12) rfl ?_); refine goesL_ (some 112) rfl rfl Try.func12 (by kernel_rfl) rfl #[.int .i64 a0, .int .i64 a2] rfl (by (try simp only [List.map_toArray, List.map_cons, List.map_nil]); first | done | rfl | (simp only [List.length_drop, List.length_take]; rfl)) ?_; (with_reducible refine (loghist_Index.calls kj24 a0 a2 t232 t233 _ A30.out).mono ?_); rintro e w' ⟨rfl, ⟨nd, rfl⟩⟩; refine ⟨_, rfl, ?_⟩) | (go_at_call 19; (with_reducible refine (lookoutlaw12_awake.calls kj24  t237 _ A44.out).mono ?_); rintro e w45 ⟨rfl, hb⟩; have n0_ := Aside0.mk (below_step (by repeat (first | (with_reducible first | exact HB.out | apply below_alloc | apply pw_below_drewN | apply below_drew1) | exact HB.out)) hb); clear HB; have HB := n0_; clear n0_; (try clear hb); (try clear hb2); (try clear hk); (try clear hi)))
                                go_ret
                                exact ⟨by first | rfl | (simp [errW_none, errW_some] <;> rfl) | (simp [*, errW_none, errW_some] <;> rfl), by repeat (first | (with_reducible first | exact HB.out | apply below_alloc | apply pw_below_drewN | apply below_drew1) | exact HB.out)⟩
                              · rw [if_neg c43] at H
                                exact absurd H (by simp)
                          · rw [if_neg c39] at H
                            exact absurd H (by simp)
                      · rw [if_neg c31] at H
                        have c31b0 : (t233 == 0) = false := beq_eq_false_iff_ne.mpr c31
                        have c31b1 : (t233 != 0) = true := bne_iff_ne.mpr c31
                        replace H := Option.bind_eq_some_iff.mp H
                        obtain ⟨t238, A460, H⟩ := H
                        replace H : (some t238) = some r := H
                        have A46 := Aside0.mk A460
                        clear A460
                        obtain rfl := Option.some.inj H
                        go_wp2_with (first | ((with_reducible refine gate_callee (f := 12) rfl ?_); refine goesL_ (some 112) rfl rfl Try.func12 (by kernel_rfl) rfl #[.int .i64 a0, .int .i64 a2] rfl (by (try simp only [List.map_toArray, List.map_cons, List.map_nil]); first | done | rfl | (simp only [List.length_drop, List.length_take]; rfl)) ?_; (with_reducible refine (loghist_Index.calls kj24 a0 a2 t232 t233 _ A30.out).mono ?_); rintro e w' ⟨rfl, ⟨nd, rfl⟩⟩; refine ⟨_, rfl, ?_⟩) | (go_at_call 19; (with_reducible refine (lookoutlaw12_awake.calls kj24  t238 _ A46.out).mono ?_); rintro e w47 ⟨rfl, hb⟩; have n0_ := Aside0.mk (below_step (by repeat (first | (with_reducible first | exact HB.out | apply below_alloc | apply pw_below_drewN | apply below_drew1) | exact HB.out)) hb); clear HB; have HB := n0_; clear n0_; (try clear hb); (try clear hb2); (try clear hk); (try clear hi)))
                        go_ret
                        exact ⟨by first | rfl | (simp [errW_none, errW_some] <;> rfl) | (simp [*, errW_none, errW_some] <;> rfl), by repeat (first | (with_reducible first | exact HB.out | apply below_alloc | apply pw_below_drewN | apply below_drew1) | exact HB.out)⟩
  · rw [if_neg c5] at H
    have c5b0 : (t221 == 0) = false := beq_eq_false_iff_ne.mpr c5
    have c5b1 : (t221 != 0) = true := bne_iff_ne.mpr c5
    replace H := Option.bind_eq_some_iff.mp H
    obtain ⟨t222, A480, H⟩ := H
    replace H : (some t222) = some r := H
    have A48 := Aside0.mk A480
    clear A480
    obtain rfl := Option.some.inj H
    go_enter Try.func4, Try.ntmps4
    go_wp2_with (first | ((with_reducible refine gate_callee (f := 12) rfl ?_); refine goesL_ (some 23) rfl rfl Try.func12 (by kernel_rfl) rfl #[.int .i64 a0, .int .i64 a1] rfl (by (try simp only [List.map_toArray, List.map_cons, List.map_nil]); first | done | rfl | (simp only [List.length_drop, List.length_take]; rfl)) ?_; (with_reducible refine (loghist_Index.calls k a0 a1 t220 t221 _ A4.out).mono ?_); rintro e w' ⟨rfl, ⟨nd, rfl⟩⟩; refine ⟨_, rfl, ?_⟩) | ((with_reducible refine gate_callee (f := 19) rfl ?_); refine goesL_ (some 28) rfl rfl Try.func19 (by kernel_rfl) rfl #[] rfl (by (try simp only [List.map_toArray, List.map_cons, List.map_nil]); first | done | rfl | (simp only [List.length_drop, List.length_take]; rfl)) ?_; (with_reducible refine (lookoutlaw12_awake.calls k  t222 _ A48.out).mono ?_); rintro e w49 ⟨rfl, hb⟩; refine ⟨_, rfl, ?_⟩; have n0_ := Aside0.mk (below_step (by repeat (first | (with_reducible first | exact HB.out | apply below_alloc | apply pw_below_drewN | apply below_drew1) | exact HB.out)) hb); clear HB; have HB := n0_; clear n0_; (try clear hb); (try clear hb2); (try clear hk); (try clear hi)))
    go_ret
    exact ⟨by first | rfl | (simp [errW_none, errW_some] <;> rfl) | (simp [*, errW_none, errW_some] <;> rfl), by repeat (first | (with_reducible first | exact HB.out | apply below_alloc | apply pw_below_drewN | apply below_drew1) | exact HB.out)⟩

/-- THE ONE PURE STATEMENT of lookoutlaw12_LoghistWidths. -/
def lookoutlaw12_LoghistWidths.Pure : Prop := ∀ (a0 : Int) (a1 : Int) (a2 : Int), (Lit.int .i64 a0).wf = true → (Lit.int .i64 a1).wf = true → (Lit.int .i64 a2).wf = true → ∃ k, lookoutlaw12_LoghistWidths.f k a0 a1 a2 = some true

end Go.Proofs.Ytclgfbhkmhhenaa.P
