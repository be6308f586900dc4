/- Several texts of this session in one. No condition beyond those in the statements. -/
import Derived.Test.YtdmdhpnlalekfaaPA
section
namespace Go.Proofs.Ytdmdhpnlalekfaa.P
open Go.RowKit Go.Proofs.YtdmdhpnlalekfaaW.PrintWords Go.Proofs.YtdmdhpnlalekfaaW.PrintLast Go.Proofs.YtdmdhpnlalekfaaW.PrintMore Go.Proofs.Ytdmdhpnlalekfaa.Hand Go.Proofs.Ytdmdhpnlalekfaa.A
attribute [local go_sem] max2_int min2_int max_two min_two max_three min_three max_four min_four   -- for this text's walks alone
set_option linter.unusedVariables false
set_option linter.unusedSimpArgs false

/-! ### slices_BinarySearch_int_int: function 46 -/
def slices_BinarySearch_int_int.l0 : Nat → List Int → Int → Int → Int → Int → Option (Int × Bool)
  | 0, _, _, _, _, _ => none
  | k + 1, x0, x1, x6, x7, x8 => if x7 < x8 then (if 0 ≤ (wrap64 ((IntKind.u64.wrap (wrap64 (x7 + x8))) / 2)) then (if (wrap64 ((IntKind.u64.wrap (wrap64 (x7 + x8))) / 2)) < (x0.length : Int) then ((cmp_Less_int.f (rd x0 (wrap64 ((IntKind.u64.wrap (wrap64 (x7 + x8))) / 2))) x1).bind fun t143 => (if t143 = true then (slices_BinarySearch_int_int.l0 k x0 x1 x6 (wrap64 ((wrap64 ((IntKind.u64.wrap (wrap64 (x7 + x8))) / 2)) + 1)) x8) else (slices_BinarySearch_int_int.l0 k x0 x1 x6 x7 (wrap64 ((IntKind.u64.wrap (wrap64 (x7 + x8))) / 2))))) else (none)) else (none)) else (if x7 < x6 then (if 0 ≤ x7 then (if x7 < (x0.length : Int) then (if (rd x0 x7) = x1 then (some (x7, true)) else ((slices_isNaN_int.f (rd x0 x7)).bind fun t146 => (if t146 = true then ((slices_isNaN_int.f x1).bind fun t147 => (some (x7, t147))) else (some (x7, false))))) else (none)) else (none)) else (some (x7, false)))
def slices_BinarySearch_int_int.f (k : Nat) (l0 : List Int) (a1 : Int) : Option (Int × Bool) := slices_BinarySearch_int_int.l0 k l0 a1 (l0.length : Int) 0 (l0.length : Int)
theorem slices_BinarySearch_int_int.mono_l : ∀ k, (∀ y0 y1 y2 y3 y4, LeO (slices_BinarySearch_int_int.l0 k y0 y1 y2 y3 y4) (slices_BinarySearch_int_int.l0 (k + 1) y0 y1 y2 y3 y4))
  | 0 => fun _ _ _ _ _ r h => by simp [slices_BinarySearch_int_int.l0] at h
  | k + 1 => by
    have ih0 := slices_BinarySearch_int_int.mono_l k
    · intro y0 y1 y2 y3 y4
      unfold slices_BinarySearch_int_int.l0
      repeat' first
      | (with_reducible exact ih0 _ _ _ _ _)
      | (with_reducible exact LeO.refl _)
      | (with_reducible exact LeO.none _)
      | (with_reducible refine LeO.ite ?_ ?_)
      | (with_reducible refine LeO.bind ?_ (fun _ => ?_))
      | exact ih0 _ _ _ _ _
      | exact LeO.none _
      | refine LeO.ite ?_ ?_
      | refine LeO.bind ?_ (fun _ => ?_)
theorem slices_BinarySearch_int_int.mono : ∀ a0 a1 k, LeO (slices_BinarySearch_int_int.f k a0 a1) (slices_BinarySearch_int_int.f (k + 1) a0 a1) := by
  intro a0 a1 k
  have ih0 := slices_BinarySearch_int_int.mono_l k
  unfold slices_BinarySearch_int_int.f
  repeat' first
      | (with_reducible exact ih0 _ _ _ _ _)
      | (with_reducible exact LeO.refl _)
      | (with_reducible exact LeO.none _)
      | (with_reducible refine LeO.ite ?_ ?_)
      | (with_reducible refine LeO.bind ?_ (fun _ => ?_))
      | exact ih0 _ _ _ _ _
      | exact LeO.none _
      | refine LeO.ite ?_ ?_
      | refine LeO.bind ?_ (fun _ => ?_)
set_option maxHeartbeats 8000000 in
set_option maxRecDepth 100000 in
theorem slices_BinarySearch_int_int.calls (k : Nat) (A0 : Option Addr) (c0 : Nat) (l0 : List Int) (a1 : Int) (r1 : Int) (r2 : Bool) (w : World) (hr0 : Kd.C (Kd.int .i64) w A0 l0.length l0) (hc0 : l0.length ≤ c0) (h : slices_BinarySearch_int_int.f k l0 a1 = some (r1, r2)) :
    Calls Try.prog 46 #[.slice A0 l0.length c0, .int .i64 a1] w fun e w' => e = .returned (.tuple #[.int .i64 r1, .bool r2]) ∧ Drawn0 w w' := by
  have HR0 := Aside0.mk hr0
  have HC0 := Aside0.mk hc0
  clear hr0 hc0
  have H : (slices_BinarySearch_int_int.l0 k l0 a1 (l0.length : Int) 0 (l0.length : Int)) = some (r1, r2) := h
  clear h
  have H' := Aside0.mk H
  clear H
  go_enter Try.func46, Try.ntmps46
  go_wp2
  go_loopg [7, 8] k (fun kq v7 v8 w' => ∃ (x7_1 : Int) (x8_1 : Int), v7 = .int .i64 x7_1 ∧ v8 = .int .i64 x8_1 ∧ Aside0 (slices_BinarySearch_int_int.l0 kq l0 a1 (l0.length : Int) x7_1 x8_1 = some (r1, r2)) ∧ Aside0 (kq ≤ k) ∧ Drawn0 w w')
  case atStart => exact ⟨(0), ((l0.length : Int)), (by first | rfl | (simp; done) | (simp [*]; done)), (by first | rfl | (simp; done) | (simp [*]; done)), H', ⟨Nat.le_refl _⟩, by repeat (first | exact Drawn0.refl _ | apply Drawn0.step)⟩
  case round =>
    clear H'
    try clear p2
    obtain ⟨x7_1, x8_1, rfl, rfl, HA, HK1, ⟨m1, rfl⟩⟩ := hrel
    cases gk with
    | zero => exact absurd HA.out (by simp [slices_BinarySearch_int_int.l0])
    | succ k1 =>
      have H := HA.out
      clear HA
      simp only [slices_BinarySearch_int_int.l0] at H
      by_cases c3 : x7_1 < x8_1
      · rw [if_pos c3] at H
        have c3b0 : decide (x7_1 < x8_1) = true := decide_eq_true c3
        clear c3
        obtain ⟨ji4, hji4⟩ : ∃ j_ : Int, (wrap64 ((IntKind.u64.wrap (wrap64 (x7_1 + x8_1))) / 2)) = j_ := ⟨_, rfl⟩
        replace H : (if 0 ≤ (ji4) then (if (ji4) < (l0.length : Int) then ((cmp_Less_int.f (rd l0 (ji4)) a1).bind fun t143 => (if t143 = true then (slices_BinarySearch_int_int.l0 k1 l0 a1 (l0.length : Int) (wrap64 ((ji4) + 1)) x8_1) else (slices_BinarySearch_int_int.l0 k1 l0 a1 (l0.length : Int) x7_1 ji4))) else (none)) else (none)) = some (r1, r2) := by first | (rw [hji4] at H; exact H) | (simp only [hji4] at H ⊢; exact H)
        have hji4w : (IntKind.i64.wrap ((IntKind.u64.wrap (wrap64 (x7_1 + x8_1))) / 2)) = ji4 := (i64_w _).trans hji4
        by_cases c5 : 0 ≤ (ji4)
        · rw [if_pos c5] at H
          have c5b0 : decide (0 ≤ (ji4)) = true := decide_eq_true c5
          clear c5
          by_cases c6 : (ji4) < (l0.length : Int)
          · rw [if_pos c6] at H
            have c6b0 : decide ((ji4) < (l0.length : Int)) = true := decide_eq_true c6
            clear c6
            replace H := Option.bind_eq_some_iff.mp H
            obtain ⟨t143, A70, H⟩ := H
            replace H : (if t143 = true then (slices_BinarySearch_int_int.l0 k1 l0 a1 (l0.length : Int) (wrap64 ((ji4) + 1)) x8_1) else (slices_BinarySearch_int_int.l0 k1 l0 a1 (l0.length : Int) x7_1 ji4)) = some (r1, r2) := H
            have A7 := Aside0.mk A70
            clear A70
            by_cases c8 : t143 = true
            · subst c8
              have H1 : (slices_BinarySearch_int_int.l0 k1 l0 a1 (l0.length : Int) (wrap64 ((ji4) + 1)) x8_1) = some (r1, r2) := by rw [if_pos rfl] at H; exact H
              clear H
              have H := H1
              clear H1
              have H' := Aside0.mk H
              clear H
              have p142 : 0 ≤ ((ji4) : Int) := of_decide_eq_true (by first | (with_reducible assumption) | assumption)
              have q142 : (ji4) < (l0.length : Int) := of_decide_eq_true (by first | (with_reducible assumption) | assumption)
              obtain ⟨ad142, e142, hx142_0⟩ := Kd.at_int HR0.out (ji4) p142 q142
              cases e142
              replace p142 := eq_true p142
              replace q142 := eq_true q142
              go_wp2_with (first | ((with_reducible refine gate_callee (f := 60) rfl ?_); refine goesL_ (some 27) rfl rfl Try.func60 (by kernel_rfl) rfl #[.int .i64 (rd l0 (ji4)), .int .i64 a1] rfl (by (try simp only [List.map_toArray, List.map_cons, List.map_nil]); first | done | (simp only [hji4]; rfl) | rfl | (simp only [List.length_drop, List.length_take]; rfl)) ?_; (with_reducible refine (cmp_Less_int.calls (rd l0 (ji4)) a1 true _ A7.out).mono ?_); rintro e w' ⟨rfl, ⟨nd, rfl⟩⟩; refine ⟨_, rfl, ?_⟩))
              go_roundg k1
              case measure => have := HK1.out; omega
              case rel => exact ⟨(wrap64 ((ji4) + 1)), (x8_1), (by first | rfl | (simp; done) | (simp only [← hji4] <;> (first | rfl | simp)) | (simp [*]; done)), (by first | rfl | (simp; done) | (simp [*]; done)), H', ⟨by have := HK1.out; omega⟩, by repeat (first | exact Drawn0.refl _ | apply Drawn0.step)⟩
            · replace c8 := Bool.eq_false_iff.mpr c8
              subst c8
              have H1 : (slices_BinarySearch_int_int.l0 k1 l0 a1 (l0.length : Int) x7_1 ji4) = some (r1, r2) := by rw [if_neg (show ¬ (false = true) by decide)] at H; exact H
              clear H
              have H := H1
              clear H1
              have H' := Aside0.mk H
              clear H
              have p142 : 0 ≤ ((ji4) : Int) := of_decide_eq_true (by first | (with_reducible assumption) | assumption)
              have q142 : (ji4) < (l0.length : Int) := of_decide_eq_true (by first | (with_reducible assumption) | assumption)
              obtain ⟨ad142, e142, hx142_0⟩ := Kd.at_int HR0.out (ji4) p142 q142
              cases e142
              replace p142 := eq_true p142
              replace q142 := eq_true q142
              go_wp2_with (first | ((with_reducible refine gate_callee (f := 60) rfl ?_); refine goesL_ (some 27) rfl rfl Try.func60 (by kernel_rfl) rfl #[.int .i64 (rd l0 (ji4)), .int .i64 a1] rfl (by (try simp only [List.map_toArray, List.map_cons, List.map_nil]); first | done | (simp only [hji4]; rfl) | rfl | (simp only [List.length_drop, List.length_take]; rfl)) ?_; (with_reducible refine (cmp_Less_int.calls (rd l0 (ji4)) a1 false _ A7.out).mono ?_); rintro e w' ⟨rfl, ⟨nd, rfl⟩⟩; refine ⟨_, rfl, ?_⟩))
              go_roundg k1
              case measure => have := HK1.out; omega
              case rel => exact ⟨(x7_1), (ji4), (by first | rfl | (simp; done) | (simp [*]; done)), (by first | rfl | (simp; done) | (simp only [← hji4] <;> (first | rfl | simp)) | (simp [*]; done)), H', ⟨by have := HK1.out; omega⟩, by repeat (first | exact Drawn0.refl _ | apply Drawn0.step)⟩
          · rw [if_neg c6] at H
            exact absurd H (by simp)
        · rw [if_neg c5] at H
          exact absurd H (by simp)
      · rw [if_neg c3] at H
        have c3b0 : decide (x7_1 < x8_1) = false := decide_eq_false c3
        clear c3
        by_cases c9 : x7_1 < (l0.length : Int)
        · rw [if_pos c9] at H
          have c9b0 : decide (x7_1 < (l0.length : Int)) = true := decide_eq_true c9
          clear c9
          by_cases c10 : 0 ≤ x7_1
          · rw [if_pos c10] at H
            have c10b0 : decide (0 ≤ x7_1) = true := decide_eq_true c10
            clear c10
            by_cases c11 : x7_1 < (l0.length : Int)
            · rw [if_pos c11] at H
              have c11b0 : decide (x7_1 < (l0.length : Int)) = true := decide_eq_true c11
              clear c11
              by_cases c12 : (rd l0 x7_1) = a1
              · rw [if_pos c12] at H
                have c12b0 : ((rd l0 x7_1) == a1) = true := beq_iff_eq.mpr c12
                have c12b1 : ((rd l0 x7_1) != a1) = false := bne_eq_false_iff_eq.mpr c12
                clear c12
                simp only [Option.some.injEq, Prod.mk.injEq] at H
                obtain ⟨rfl, rfl⟩ := H
                have p144 : 0 ≤ (x7_1 : Int) := of_decide_eq_true (by first | (with_reducible assumption) | assumption)
                have q144 : x7_1 < (l0.length : Int) := of_decide_eq_true (by first | (with_reducible assumption) | assumption)
                obtain ⟨ad144, e144, hx144_0⟩ := Kd.at_int HR0.out x7_1 p144 q144
                cases e144
                replace p144 := eq_true p144
                replace q144 := eq_true q144
                go_wp2
                go_ret2
                exact ⟨by first | rfl | (simp; done) | (simp [*]; done), by repeat (first | exact Drawn0.refl _ | apply Drawn0.step)⟩
              · rw [if_neg c12] at H
                have c12b0 : ((rd l0 x7_1) == a1) = false := beq_eq_false_iff_ne.mpr c12
                have c12b1 : ((rd l0 x7_1) != a1) = true := bne_iff_ne.mpr c12
                replace H := Option.bind_eq_some_iff.mp H
                obtain ⟨t146, A130, H⟩ := H
                replace H : (if t146 = true then ((slices_isNaN_int.f a1).bind fun t147 => (some (x7_1, t147))) else (some (x7_1, false))) = some (r1, r2) := H
                have A13 := Aside0.mk A130
                clear A130
                by_cases c14 : t146 = true
                · subst c14
                  have H1 : ((slices_isNaN_int.f a1).bind fun t147 => (some (x7_1, t147))) = some (r1, r2) := by rw [if_pos rfl] at H; exact H
                  clear H
                  have H := H1
                  clear H1
                  replace H := Option.bind_eq_some_iff.mp H
                  obtain ⟨t147, A150, H⟩ := H
                  replace H : (some (x7_1, t147)) = some (r1, r2) := H
                  have A15 := Aside0.mk A150
                  clear A150
                  simp only [Option.some.injEq, Prod.mk.injEq] at H
                  obtain ⟨rfl, rfl⟩ := H
                  have p144 : 0 ≤ (x7_1 : Int) := of_decide_eq_true (by first | (with_reducible assumption) | assumption)
                  have q144 : x7_1 < (l0.length : Int) := of_decide_eq_true (by first | (with_reducible assumption) | assumption)
                  obtain ⟨ad144, e144, hx144_0⟩ := Kd.at_int HR0.out x7_1 p144 q144
                  cases e144
                  replace p144 := eq_true p144
                  replace q144 := eq_true q144
                  have p145 : 0 ≤ (x7_1 : Int) := of_decide_eq_true (by first | (with_reducible assumption) | assumption)
                  have q145 : x7_1 < (l0.length : Int) := of_decide_eq_true (by first | (with_reducible assumption) | assumption)
                  obtain ⟨ad145, e145, hx145_0⟩ := Kd.at_int HR0.out x7_1 p145 q145
                  obtain rfl : ad144 = ad145 := (by injection e145)
                  replace p145 := eq_true p145
                  replace q145 := eq_true q145
                  go_wp2_with (first | (go_at_call 61; (with_reducible refine (slices_isNaN_int.calls (rd l0 x7_1) true _ A13.out).mono ?_); rintro e w' ⟨rfl, ⟨nd, rfl⟩⟩) | (go_at_call 61; (with_reducible refine (slices_isNaN_int.calls a1 t147 _ A15.out).mono ?_); rintro e w' ⟨rfl, ⟨nd, rfl⟩⟩))
                  go_ret2
                  exact ⟨by first | rfl | (simp; done) | (simp [*]; done), by repeat (first | exact Drawn0.refl _ | apply Drawn0.step)⟩
                · replace c14 := Bool.eq_false_iff.mpr c14
                  subst c14
                  have H1 : (some (x7_1, false)) = some (r1, r2) := by rw [if_neg (show ¬ (false = true) by decide)] at H; exact H
                  clear H
                  have H := H1
                  clear H1
                  simp only [Option.some.injEq, Prod.mk.injEq] at H
                  obtain ⟨rfl, rfl⟩ := H
                  have p144 : 0 ≤ (x7_1 : Int) := of_decide_eq_true (by first | (with_reducible assumption) | assumption)
                  have q144 : x7_1 < (l0.length : Int) := of_decide_eq_true (by first | (with_reducible assumption) | assumption)
                  obtain ⟨ad144, e144, hx144_0⟩ := Kd.at_int HR0.out x7_1 p144 q144
                  cases e144
                  replace p144 := eq_true p144
                  replace q144 := eq_true q144
                  have p145 : 0 ≤ (x7_1 : Int) := of_decide_eq_true (by first | (with_reducible assumption) | assumption)
                  have q145 : x7_1 < (l0.length : Int) := of_decide_eq_true (by first | (with_reducible assumption) | assumption)
                  obtain ⟨ad145, e145, hx145_0⟩ := Kd.at_int HR0.out x7_1 p145 q145
                  obtain rfl : ad144 = ad145 := (by injection e145)
                  replace p145 := eq_true p145
                  replace q145 := eq_true q145
                  go_wp2_with (first | (go_at_call 61; (with_reducible refine (slices_isNaN_int.calls (rd l0 x7_1) false _ A13.out).mono ?_); rintro e w' ⟨rfl, ⟨nd, rfl⟩⟩))
                  go_ret2
                  exact ⟨by first | rfl | (simp; done) | (simp [*]; done), by repeat (first | exact Drawn0.refl _ | apply Drawn0.step)⟩
            · rw [if_neg c11] at H
              exact absurd H (by simp)
          · rw [if_neg c10] at H
            exact absurd H (by simp)
        · rw [if_neg c9] at H
          have c9b0 : decide (x7_1 < (l0.length : Int)) = false := decide_eq_false c9
          clear c9
          simp only [Option.some.injEq, Prod.mk.injEq] at H
          obtain ⟨rfl, rfl⟩ := H
          go_wp2
          go_ret2
          exact ⟨by first | rfl | (simp; done) | (simp [*]; done), by repeat (first | exact Drawn0.refl _ | apply Drawn0.step)⟩

end Go.Proofs.Ytdmdhpnlalekfaa.P
end
section
namespace Go.Proofs.Ytdmdhpnlalekfaa.P
open Go.RowKit Go.Proofs.YtdmdhpnlalekfaaW.PrintWords Go.Proofs.YtdmdhpnlalekfaaW.PrintLast Go.Proofs.YtdmdhpnlalekfaaW.PrintMore Go.Proofs.Ytdmdhpnlalekfaa.Hand Go.Proofs.Ytdmdhpnlalekfaa.A
attribute [local go_sem] max2_int min2_int max_two min_two max_three min_three max_four min_four   -- for this text's walks alone
set_option linter.unusedVariables false
set_option linter.unusedSimpArgs false

/-! ### postings_Seek: function 25 -/
def postings_Seek.f (k : Nat) (l0 : List Int) (a1 : Int) : Option (Int) := (postings_valid.f k (([l0] : List (List Int)))).bind fun t151 => (if t151 = true then ((slices_BinarySearch_int_int.f k l0 a1).bind fun bt152 => (some bt152.1)) else (some 0))
theorem postings_Seek.mono : ∀ a0 a1 k, LeO (postings_Seek.f k a0 a1) (postings_Seek.f (k + 1) a0 a1) := by
  intro a0 a1 k
  unfold postings_Seek.f
  repeat' first
      | (with_reducible exact postings_valid.mono _ _)
      | (with_reducible exact slices_BinarySearch_int_int.mono _ _ _)
      | (with_reducible exact LeO.refl _)
      | (with_reducible exact LeO.none _)
      | (with_reducible refine LeO.ite ?_ ?_)
      | (with_reducible refine LeO.bind ?_ (fun _ => ?_))
      | exact postings_valid.mono _ _
      | exact slices_BinarySearch_int_int.mono _ _ _
      | exact LeO.none _
      | refine LeO.ite ?_ ?_
      | refine LeO.bind ?_ (fun _ => ?_)
set_option maxHeartbeats 8000000 in
set_option maxRecDepth 100000 in
theorem postings_Seek.calls (k : Nat) (P0_ : Nat → Prop) (A0 : Option Addr) (c0 : Nat) (l0 : List Int) (a1 : Int) (r : Int) (w : World) (hs0 : Kd.V (Kd.int .i64) 3 w w.heap.size (fun k_ => P0_ k_) (.slice A0 l0.length c0) l0) (h : postings_Seek.f k l0 a1 = some r) :
    Calls Try.prog 25 #[.slice A0 l0.length c0, .int .i64 a1] w fun e w' => e = .returned (.int .i64 r) ∧ Below w.heap.size w w' := by
  have HO0 := Aside0.mk (show Kd.V (Kd.int .i64) 3 w w.heap.size (fun k_ => (P0_ k_ ∨ w.heap.size ≤ k_)) (.slice A0 l0.length c0) l0 from Kd.V_mono hs0 (fun k_ hk => .inl hk))
  have HB := Aside0.mk (Below.refl w.heap.size w)
  have H : ((postings_valid.f k (([l0] : List (List Int)))).bind fun t151 => (if t151 = true then ((slices_BinarySearch_int_int.f k l0 a1).bind fun bt152 => (some bt152.1)) else (some 0))) = some r := h
  clear h
  obtain ⟨y148, hy148⟩ : ∃ y_ : List (List Int), y_ = (([l0] : List (List Int))) := ⟨_, rfl⟩
  replace H : ((postings_valid.f k y148).bind fun t151 => (if t151 = true then ((slices_BinarySearch_int_int.f k l0 a1).bind fun bt152 => (some bt152.1)) else (some 0))) = some r := by first | (rw [hy148]; with_reducible exact H) | (have H2_ := (Option.bind_some _ _).symm.trans H; rw [hy148]; with_reducible exact H2_) | (have H2_ := (Option.bind_some _ _).symm.trans H; with_reducible exact H2_) | with_reducible exact H | (rw [hy148]; exact H) | exact H
  have Ny148 := Aside0.mk hy148
  clear hy148
  replace H := Option.bind_eq_some_iff.mp H
  obtain ⟨t151, A30, H⟩ := H
  replace H : (if t151 = true then ((slices_BinarySearch_int_int.f k l0 a1).bind fun bt152 => (some bt152.1)) else (some 0)) = some r := H
  have A3 := Aside0.mk A30
  clear A30
  by_cases c4 : t151 = true
  · subst c4
    have H1 : ((slices_BinarySearch_int_int.f k l0 a1).bind fun bt152 => (some bt152.1)) = some r := by rw [if_pos rfl] at H; exact H
    clear H
    have H := H1
    clear H1
    replace H := Option.bind_eq_some_iff.mp H
    obtain ⟨⟨t152, t153⟩, A50, H⟩ := H
    replace H : (some t152) = some r := H
    have A5 := Aside0.mk A50
    clear A50
    obtain rfl := Option.some.inj H
    go_enter Try.func25, Try.ntmps25
    go_wp2_with (first | ((with_reducible refine gate_dst (N := 8) rfl ?_); refine Kd.N_lit (Kd.slice 3 (Kd.int .i64)) _ 23 ?hg (N' := 8) ?hd (xs := ([l0] : List (List Int))) (inner := [.slice A0 l0.length c0]) (ok := (fun k_ => (P0_ k_ ∨ w.heap.size ≤ k_))) (okp := (fun k_ => (P0_ k_ ∨ w.heap.size ≤ k_))) ?hr ?hp (fun _ hk => hk) ((show ∀ k_, w.heap.size ≤ k_ → (fun k_ => (P0_ k_ ∨ w.heap.size ≤ k_)) k_ from fun k_ hk => (.inr (Nat.le_trans (below_size (by repeat (first | (with_reducible first | exact HB.out | apply below_alloc | apply pw_below_drewN | apply below_drew1) | exact HB.out))) hk))) _ (Nat.le_refl _)) (Below.refl _ _) (Nat.le_refl _) (by simp) ?_; (case hd => rfl); (case hg => rfl); (case hr => first | (go_simp; done) | (go_simp; rfl)); (case hp => exact (Reps.one (show Kd.FK (Kd.slice 3 (Kd.int .i64)) _ _ l0 [.slice A0 l0.length c0] from (Kd.FK_slice_mk (Kd.V_reads' (Kd.V_mono (ok' := (fun k_ => (P0_ k_ ∨ w.heap.size ≤ k_))) (HO0.out) (fun k_ hk => hk))).2.1 (Kd.V_F (Kd.V_mono (ok' := (fun k_ => (P0_ k_ ∨ w.heap.size ≤ k_))) (HO0.out) (fun k_ hk => hk))))) (Reps.none _ _))); intro v149 w6 ho7 hb hg_ hnew_; clear hg_ hnew_; (first | rw [← Ny148.out] at ho7 | (simp only [Int.reduceToNat] at ho7; rw [← Ny148.out] at ho7)); have n0_ := Aside0.mk (Kd.V_elder' (by (with_reducible repeat (first | apply Kd.V_alloc | apply Kd.V_drewN | apply Kd.V_drew)); exact HO0.out) (Kd.N_base ho7) hb); have n1_ := Aside0.mk (Kd.N_lower ho7 (below_size (by repeat (first | (with_reducible first | exact HB.out | apply below_alloc | apply pw_below_drewN | apply below_drew1) | exact HB.out)))); have n2_ := Aside0.mk (below_step (by repeat (first | (with_reducible first | exact HB.out | apply below_alloc | apply pw_below_drewN | apply below_drew1) | exact HB.out)) hb); clear HO0; clear HB; have HO0 := n0_; have HO150 := n1_; have HB := n2_; clear n0_ n1_ n2_; clear hb ho7; obtain ⟨Ao8, co8, eo8⟩ := Kd.N_slice HO150.out; subst eo8) | ((with_reducible refine gate_callee (f := 40) rfl ?_); refine goesL_ (some 9) rfl rfl Try.func40 (by kernel_rfl) rfl #[.slice Ao8 y148.length co8] rfl (by (try simp only [List.map_toArray, List.map_cons, List.map_nil]); first | done | rfl | (simp only [List.length_drop, List.length_take]; rfl)) ?_; (with_reducible refine (postings_valid.calls k _ _ y148 true _ ?side1 ?side2 A3.out).mono ?_); (case side1 => repeat (first | exact (Kd.N_reads' HO150.out).2.2 | (with_reducible refine Kd.C_alloc ?_ _) | (with_reducible refine Kd.C_drewN ?_ _) | (with_reducible refine Kd.C_drew ?_))); (case side2 => exact (Kd.N_reads' HO150.out).2.1); rintro e w' ⟨rfl, ⟨nd, rfl⟩⟩; refine ⟨_, rfl, ?_⟩) | ((with_reducible refine gate_callee (f := 46) rfl ?_); refine goesL_ (some 14) rfl rfl Try.func46 (by kernel_rfl) rfl #[.slice A0 l0.length c0, .int .i64 a1] rfl (by (try simp only [List.map_toArray, List.map_cons, List.map_nil]); first | done | rfl | (simp only [List.length_drop, List.length_take]; rfl)) ?_; (with_reducible refine (slices_BinarySearch_int_int.calls k _ _ l0 a1 t152 t153 _ ?side1 ?side2 A5.out).mono ?_); (case side1 => repeat (first | exact (Kd.V_reads' HO0.out).2.2 | (with_reducible refine Kd.C_alloc ?_ _) | (with_reducible refine Kd.C_drewN ?_ _) | (with_reducible refine Kd.C_drew ?_))); (case side2 => exact (Kd.V_reads' HO0.out).2.1); rintro e w' ⟨rfl, ⟨nd, rfl⟩⟩; refine ⟨_, rfl, ?_⟩))
    go_ret
    exact ⟨by first | rfl | (simp [errW_none, errW_some] <;> rfl) | (simp [*, errW_none, errW_some] <;> rfl), by repeat (first | (with_reducible first | exact HB.out | apply below_alloc | apply pw_below_drewN | apply below_drew1) | exact HB.out)⟩
  · replace c4 := Bool.eq_false_iff.mpr c4
    subst c4
    have H1 : (some 0) = some r := by rw [if_neg (show ¬ (false = true) by decide)] at H; exact H
    clear H
    have H := H1
    clear H1
    obtain rfl := Option.some.inj H
    go_enter Try.func25, Try.ntmps25
    go_wp2_with (first | ((with_reducible refine gate_dst (N := 8) rfl ?_); refine Kd.N_lit (Kd.slice 3 (Kd.int .i64)) _ 23 ?hg (N' := 8) ?hd (xs := ([l0] : List (List Int))) (inner := [.slice A0 l0.length c0]) (ok := (fun k_ => (P0_ k_ ∨ w.heap.size ≤ k_))) (okp := (fun k_ => (P0_ k_ ∨ w.heap.size ≤ k_))) ?hr ?hp (fun _ hk => hk) ((show ∀ k_, w.heap.size ≤ k_ → (fun k_ => (P0_ k_ ∨ w.heap.size ≤ k_)) k_ from fun k_ hk => (.inr (Nat.le_trans (below_size (by repeat (first | (with_reducible first | exact HB.out | apply below_alloc | apply pw_below_drewN | apply below_drew1) | exact HB.out))) hk))) _ (Nat.le_refl _)) (Below.refl _ _) (Nat.le_refl _) (by simp) ?_; (case hd => rfl); (case hg => rfl); (case hr => first | (go_simp; done) | (go_simp; rfl)); (case hp => exact (Reps.one (show Kd.FK (Kd.slice 3 (Kd.int .i64)) _ _ l0 [.slice A0 l0.length c0] from (Kd.FK_slice_mk (Kd.V_reads' (Kd.V_mono (ok' := (fun k_ => (P0_ k_ ∨ w.heap.size ≤ k_))) (HO0.out) (fun k_ hk => hk))).2.1 (Kd.V_F (Kd.V_mono (ok' := (fun k_ => (P0_ k_ ∨ w.heap.size ≤ k_))) (HO0.out) (fun k_ hk => hk))))) (Reps.none _ _))); intro v149 w9 ho10 hb hg_ hnew_; clear hg_ hnew_; (first | rw [← Ny148.out] at ho10 | (simp only [Int.reduceToNat] at ho10; rw [← Ny148.out] at ho10)); have n0_ := Aside0.mk (Kd.V_elder' (by (with_reducible repeat (first | apply Kd.V_alloc | apply Kd.V_drewN | apply Kd.V_drew)); exact HO0.out) (Kd.N_base ho10) hb); have n1_ := Aside0.mk (Kd.N_lower ho10 (below_size (by repeat (first | (with_reducible first | exact HB.out | apply below_alloc | apply pw_below_drewN | apply below_drew1) | exact HB.out)))); have n2_ := Aside0.mk (below_step (by repeat (first | (with_reducible first | exact HB.out | apply below_alloc | apply pw_below_drewN | apply below_drew1) | exact HB.out)) hb); clear HO0; clear HB; have HO0 := n0_; have HO150 := n1_; have HB := n2_; clear n0_ n1_ n2_; clear hb ho10; obtain ⟨Ao11, co11, eo11⟩ := Kd.N_slice HO150.out; subst eo11) | ((with_reducible refine gate_callee (f := 40) rfl ?_); refine goesL_ (some 9) rfl rfl Try.func40 (by kernel_rfl) rfl #[.slice Ao11 y148.length co11] rfl (by (try simp only [List.map_toArray, List.map_cons, List.map_nil]); first | done | rfl | (simp only [List.length_drop, List.length_take]; rfl)) ?_; (with_reducible refine (postings_valid.calls k _ _ y148 false _ ?side1 ?side2 A3.out).mono ?_); (case side1 => repeat (first | exact (Kd.N_reads' HO150.out).2.2 | (with_reducible refine Kd.C_alloc ?_ _) | (with_reducible refine Kd.C_drewN ?_ _) | (with_reducible refine Kd.C_drew ?_))); (case side2 => exact (Kd.N_reads' HO150.out).2.1); rintro e w' ⟨rfl, ⟨nd, rfl⟩⟩; refine ⟨_, rfl, ?_⟩))
    go_ret
    exact ⟨by first | rfl | (simp [errW_none, errW_some] <;> rfl) | (simp [*, errW_none, errW_some] <;> rfl), by repeat (first | (with_reducible first | exact HB.out | apply below_alloc | apply pw_below_drewN | apply below_drew1) | exact HB.out)⟩

end Go.Proofs.Ytdmdhpnlalekfaa.P
end
section
namespace Go.Proofs.Ytdmdhpnlalekfaa.P
open Go.RowKit Go.Proofs.YtdmdhpnlalekfaaW.PrintWords Go.Proofs.YtdmdhpnlalekfaaW.PrintLast Go.Proofs.YtdmdhpnlalekfaaW.PrintMore Go.Proofs.Ytdmdhpnlalekfaa.Hand Go.Proofs.Ytdmdhpnlalekfaa.A
attribute [local go_sem] max2_int min2_int max_two min_two max_three min_three max_four min_four   -- for this text's walks alone
set_option linter.unusedVariables false
set_option linter.unusedSimpArgs false

-- NOT PRINTED: function 69 (abi_NoEscape)

end Go.Proofs.Ytdmdhpnlalekfaa.P
end
section
namespace Go.Proofs.Ytdmdhpnlalekfaa.P
open Go.RowKit Go.Proofs.YtdmdhpnlalekfaaW.PrintWords Go.Proofs.YtdmdhpnlalekfaaW.PrintLast Go.Proofs.YtdmdhpnlalekfaaW.PrintMore Go.Proofs.Ytdmdhpnlalekfaa.Hand Go.Proofs.Ytdmdhpnlalekfaa.A
attribute [local go_sem] max2_int min2_int max_two min_two max_three min_three max_four min_four   -- for this text's walks alone
set_option linter.unusedVariables false
set_option linter.unusedSimpArgs false

-- NOT PRINTED: function 63 (strings_Builder_copyCheck)

end Go.Proofs.Ytdmdhpnlalekfaa.P
end
section
namespace Go.Proofs.Ytdmdhpnlalekfaa.P
open Go.RowKit Go.Proofs.YtdmdhpnlalekfaaW.PrintWords Go.Proofs.YtdmdhpnlalekfaaW.PrintLast Go.Proofs.YtdmdhpnlalekfaaW.PrintMore Go.Proofs.Ytdmdhpnlalekfaa.Hand Go.Proofs.Ytdmdhpnlalekfaa.A
attribute [local go_sem] max2_int min2_int max_two min_two max_three min_three max_four min_four   -- for this text's walks alone
set_option linter.unusedVariables false
set_option linter.unusedSimpArgs false

-- NOT PRINTED: function 48 (strings_Builder_WriteString)

end Go.Proofs.Ytdmdhpnlalekfaa.P
end
section
namespace Go.Proofs.Ytdmdhpnlalekfaa.P
open Go.RowKit Go.Proofs.YtdmdhpnlalekfaaW.PrintWords Go.Proofs.YtdmdhpnlalekfaaW.PrintLast Go.Proofs.YtdmdhpnlalekfaaW.PrintMore Go.Proofs.Ytdmdhpnlalekfaa.Hand Go.Proofs.Ytdmdhpnlalekfaa.A
attribute [local go_sem] max2_int min2_int max_two min_two max_three min_three max_four min_four   -- for this text's walks alone
set_option linter.unusedVariables false
set_option linter.unusedSimpArgs false

-- NOT PRINTED: function 49 (strings_Builder_String)

end Go.Proofs.Ytdmdhpnlalekfaa.P
end
section
namespace Go.Proofs.Ytdmdhpnlalekfaa.P
open Go.RowKit Go.Proofs.YtdmdhpnlalekfaaW.PrintWords Go.Proofs.YtdmdhpnlalekfaaW.PrintLast Go.Proofs.YtdmdhpnlalekfaaW.PrintMore Go.Proofs.Ytdmdhpnlalekfaa.Hand Go.Proofs.Ytdmdhpnlalekfaa.A
attribute [local go_sem] max2_int min2_int max_two min_two max_three min_three max_four min_four   -- for this text's walks alone
set_option linter.unusedVariables false
set_option linter.unusedSimpArgs false

/-! ### lookoutlaw08_awake: function 12 -/
def lookoutlaw08_awake.f (k : Nat)  : Option (Bool) := (some (([1, 3, 5] : List Int) : List Int)).bind fun y154 => ((some (([3, 4] : List Int) : List Int)).bind fun y157 => ((postings_Encode.f k (([1, 3, 300] : List Int))).bind fun bt163 => ((postings_Decode.f k bt163.1).bind fun bt165 => ((postings_And.f k y154 y157).bind fun t169 => ((lookoutref08_Same.f k t169 (([3] : List Int))).bind fun t175 => (if t175 = true then ((postings_Or.f k y154 y157).bind fun t176 => ((lookoutref08_Same.f k t176 (([1, 3, 4, 5] : List Int))).bind fun t182 => (if t182 = true then ((postings_Without.f k y154 y157).bind fun t183 => ((lookoutref08_Same.f k t183 (([1, 5] : List Int))).bind fun t189 => (if t189 = true then ((postings_Seek.f k y154 4).bind fun t190 => (if t190 = 2 then (if bt163.2 = 0 then (if bt165.2 = 0 then (if bt163.1.toList = ([3, 1, 1, 168, 2] : List UInt8) then ((lookoutref08_Same.f k bt165.1 (([1, 3, 300] : List Int))).bind fun t194 => (some t194)) else (none)) else (none)) else (none)) else (none))) else (none)))) else (none)))) else (none)))))))
theorem lookoutlaw08_awake.mono : ∀ k, LeO (lookoutlaw08_awake.f k ) (lookoutlaw08_awake.f (k + 1) ) := by
  intro  k
  unfold lookoutlaw08_awake.f
  repeat' first
      | (with_reducible exact lookoutref08_Same.mono _ _ _)
      | (with_reducible exact postings_And.mono _ _ _)
      | (with_reducible exact postings_Decode.mono _ _)
      | (with_reducible exact postings_Encode.mono _ _)
      | (with_reducible exact postings_Or.mono _ _ _)
      | (with_reducible exact postings_Seek.mono _ _ _)
      | (with_reducible exact postings_Without.mono _ _ _)
      | (with_reducible exact LeO.refl _)
      | (with_reducible exact LeO.none _)
      | (with_reducible refine LeO.ite ?_ ?_)
      | (with_reducible refine LeO.bind ?_ (fun _ => ?_))
      | exact lookoutref08_Same.mono _ _ _
      | exact postings_And.mono _ _ _
      | exact postings_Decode.mono _ _
      | exact postings_Encode.mono _ _
      | exact postings_Or.mono _ _ _
      | exact postings_Seek.mono _ _ _
      | exact postings_Without.mono _ _ _
      | exact LeO.none _
      | refine LeO.ite ?_ ?_
      | refine LeO.bind ?_ (fun _ => ?_)
set_option maxHeartbeats 8000000 in
set_option maxRecDepth 100000 in
theorem lookoutlaw08_awake.calls (k : Nat)  (r : Bool) (w : World) (h : lookoutlaw08_awake.f k  = some r) :
    Calls Try.prog 12 #[] w fun e w' => e = .returned (.bool r) ∧ Below w.heap.size w w' := by
  have HB := Aside0.mk (Below.refl w.heap.size w)
  have H : ((some (([1, 3, 5] : List Int) : List Int)).bind fun y154 => ((some (([3, 4] : List Int) : List Int)).bind fun y157 => ((postings_Encode.f k (([1, 3, 300] : List Int))).bind fun bt163 => ((postings_Decode.f k bt163.1).bind fun bt165 => ((postings_And.f k y154 y157).bind fun t169 => ((lookoutref08_Same.f k t169 (([3] : List Int))).bind fun t175 => (if t175 = true then ((postings_Or.f k y154 y157).bind fun t176 => ((lookoutref08_Same.f k t176 (([1, 3, 4, 5] : List Int))).bind fun t182 => (if t182 = true then ((postings_Without.f k y154 y157).bind fun t183 => ((lookoutref08_Same.f k t183 (([1, 5] : List Int))).bind fun t189 => (if t189 = true then ((postings_Seek.f k y154 4).bind fun t190 => (if t190 = 2 then (if bt163.2 = 0 then (if bt165.2 = 0 then (if bt163.1.toList = ([3, 1, 1, 168, 2] : List UInt8) then ((lookoutref08_Same.f k bt165.1 (([1, 3, 300] : List Int))).bind fun t194 => (some t194)) else (none)) else (none)) else (none)) else (none))) else (none)))) else (none)))) else (none)))))))) = some r := h
  clear h
  obtain ⟨y154, hy154⟩ : ∃ y_ : List Int, y_ = (([1, 3, 5] : List Int)) := ⟨_, rfl⟩
  replace H : ((some (([3, 4] : List Int) : List Int)).bind fun y157 => ((postings_Encode.f k (([1, 3, 300] : List Int))).bind fun bt163 => ((postings_Decode.f k bt163.1).bind fun bt165 => ((postings_And.f k y154 y157).bind fun t169 => ((lookoutref08_Same.f k t169 (([3] : List Int))).bind fun t175 => (if t175 = true then ((postings_Or.f k y154 y157).bind fun t176 => ((lookoutref08_Same.f k t176 (([1, 3, 4, 5] : List Int))).bind fun t182 => (if t182 = true then ((postings_Without.f k y154 y157).bind fun t183 => ((lookoutref08_Same.f k t183 (([1, 5] : List Int))).bind fun t189 => (if t189 = true then ((postings_Seek.f k y154 4).bind fun t190 => (if t190 = 2 then (if bt163.2 = 0 then (if bt165.2 = 0 then (if bt163.1.toList = ([3, 1, 1, 168, 2] : List UInt8) then ((lookoutref08_Same.f k bt165.1 (([1, 3, 300] : List Int))).bind fun t194 => (some t194)) else (none)) else (none)) else (none)) else (none))) else (none)))) else (none)))) else (none))))))) = some r := by first | (rw [hy154]; with_reducible exact H) | (have H2_ := (Option.bind_some _ _).symm.trans H; rw [hy154]; with_reducible exact H2_) | (have H2_ := (Option.bind_some _ _).symm.trans H; with_reducible exact H2_) | with_reducible exact H | (rw [hy154]; exact H) | exact H
  have Ny154 := Aside0.mk hy154
  clear hy154
  obtain ⟨y157, hy157⟩ : ∃ y_ : List Int, y_ = (([3, 4] : List Int)) := ⟨_, rfl⟩
  replace H : ((postings_Encode.f k (([1, 3, 300] : List Int))).bind fun bt163 => ((postings_Decode.f k bt163.1).bind fun bt165 => ((postings_And.f k y154 y157).bind fun t169 => ((lookoutref08_Same.f k t169 (([3] : List Int))).bind fun t175 => (if t175 = true then ((postings_Or.f k y154 y157).bind fun t176 => ((lookoutref08_Same.f k t176 (([1, 3, 4, 5] : List Int))).bind fun t182 => (if t182 = true then ((postings_Without.f k y154 y157).bind fun t183 => ((lookoutref08_Same.f k t183 (([1, 5] : List Int))).bind fun t189 => (if t189 = true then ((postings_Seek.f k y154 4).bind fun t190 => (if t190 = 2 then (if bt163.2 = 0 then (if bt165.2 = 0 then (if bt163.1.toList = ([3, 1, 1, 168, 2] : List UInt8) then ((lookoutref08_Same.f k bt165.1 (([1, 3, 300] : List Int))).bind fun t194 => (some t194)) else (none)) else (none)) else (none)) else (none))) else (none)))) else (none)))) else (none)))))) = some r := by first | (rw [hy157]; with_reducible exact H) | (have H2_ := (Option.bind_some _ _).symm.trans H; rw [hy157]; with_reducible exact H2_) | (have H2_ := (Option.bind_some _ _).symm.trans H; with_reducible exact H2_) | with_reducible exact H | (rw [hy157]; exact H) | exact H
  have Ny157 := Aside0.mk hy157
  clear hy157
  obtain ⟨y160, hy160⟩ : ∃ y_ : List Int, y_ = (([1, 3, 300] : List Int)) := ⟨_, rfl⟩
  replace H : ((postings_Encode.f k y160).bind fun bt163 => ((postings_Decode.f k bt163.1).bind fun bt165 => ((postings_And.f k y154 y157).bind fun t169 => ((lookoutref08_Same.f k t169 (([3] : List Int))).bind fun t175 => (if t175 = true then ((postings_Or.f k y154 y157).bind fun t176 => ((lookoutref08_Same.f k t176 (([1, 3, 4, 5] : List Int))).bind fun t182 => (if t182 = true then ((postings_Without.f k y154 y157).bind fun t183 => ((lookoutref08_Same.f k t183 (([1, 5] : List Int))).bind fun t189 => (if t189 = true then ((postings_Seek.f k y154 4).bind fun t190 => (if t190 = 2 then (if bt163.2 = 0 then (if bt165.2 = 0 then (if bt163.1.toList = ([3, 1, 1, 168, 2] : List UInt8) then ((lookoutref08_Same.f k bt165.1 (([1, 3, 300] : List Int))).bind fun t194 => (some t194)) else (none)) else (none)) else (none)) else (none))) else (none)))) else (none)))) else (none)))))) = some r := by first | (rw [hy160]; with_reducible exact H) | (have H2_ := (Option.bind_some _ _).symm.trans H; rw [hy160]; with_reducible exact H2_) | (have H2_ := (Option.bind_some _ _).symm.trans H; with_reducible exact H2_) | with_reducible exact H | (rw [hy160]; exact H) | exact H
  have Ny160 := Aside0.mk hy160
  clear hy160
  replace H := Option.bind_eq_some_iff.mp H
  obtain ⟨⟨t163, t164⟩, A10, H⟩ := H
  replace H : ((postings_Decode.f k t163).bind fun bt165 => ((postings_And.f k y154 y157).bind fun t169 => ((lookoutref08_Same.f k t169 (([3] : List Int))).bind fun t175 => (if t175 = true then ((postings_Or.f k y154 y157).bind fun t176 => ((lookoutref08_Same.f k t176 (([1, 3, 4, 5] : List Int))).bind fun t182 => (if t182 = true then ((postings_Without.f k y154 y157).bind fun t183 => ((lookoutref08_Same.f k t183 (([1, 5] : List Int))).bind fun t189 => (if t189 = true then ((postings_Seek.f k y154 4).bind fun t190 => (if t190 = 2 then (if t164 = 0 then (if bt165.2 = 0 then (if t163.toList = ([3, 1, 1, 168, 2] : List UInt8) then ((lookoutref08_Same.f k bt165.1 (([1, 3, 300] : List Int))).bind fun t194 => (some t194)) else (none)) else (none)) else (none)) else (none))) else (none)))) else (none)))) else (none))))) = some r := H
  have A1 := Aside0.mk A10
  clear A10
  replace H := Option.bind_eq_some_iff.mp H
  obtain ⟨⟨t165, t166⟩, A20, H⟩ := H
  replace H : ((postings_And.f k y154 y157).bind fun t169 => ((lookoutref08_Same.f k t169 (([3] : List Int))).bind fun t175 => (if t175 = true then ((postings_Or.f k y154 y157).bind fun t176 => ((lookoutref08_Same.f k t176 (([1, 3, 4, 5] : List Int))).bind fun t182 => (if t182 = true then ((postings_Without.f k y154 y157).bind fun t183 => ((lookoutref08_Same.f k t183 (([1, 5] : List Int))).bind fun t189 => (if t189 = true then ((postings_Seek.f k y154 4).bind fun t190 => (if t190 = 2 then (if t164 = 0 then (if t166 = 0 then (if t163.toList = ([3, 1, 1, 168, 2] : List UInt8) then ((lookoutref08_Same.f k t165 (([1, 3, 300] : List Int))).bind fun t194 => (some t194)) else (none)) else (none)) else (none)) else (none))) else (none)))) else (none)))) else (none)))) = some r := H
  have A2 := Aside0.mk A20
  clear A20
  replace H := Option.bind_eq_some_iff.mp H
  obtain ⟨t169, A30, H⟩ := H
  replace H : ((lookoutref08_Same.f k t169 (([3] : List Int))).bind fun t175 => (if t175 = true then ((postings_Or.f k y154 y157).bind fun t176 => ((lookoutref08_Same.f k t176 (([1, 3, 4, 5] : List Int))).bind fun t182 => (if t182 = true then ((postings_Without.f k y154 y157).bind fun t183 => ((lookoutref08_Same.f k t183 (([1, 5] : List Int))).bind fun t189 => (if t189 = true then ((postings_Seek.f k y154 4).bind fun t190 => (if t190 = 2 then (if t164 = 0 then (if t166 = 0 then (if t163.toList = ([3, 1, 1, 168, 2] : List UInt8) then ((lookoutref08_Same.f k t165 (([1, 3, 300] : List Int))).bind fun t194 => (some t194)) else (none)) else (none)) else (none)) else (none))) else (none)))) else (none)))) else (none))) = some r := H
  have A3 := Aside0.mk A30
  clear A30
  obtain ⟨y172, hy172⟩ : ∃ y_ : List Int, y_ = (([3] : List Int)) := ⟨_, rfl⟩
  replace H : ((lookoutref08_Same.f k t169 y172).bind fun t175 => (if t175 = true then ((postings_Or.f k y154 y157).bind fun t176 => ((lookoutref08_Same.f k t176 (([1, 3, 4, 5] : List Int))).bind fun t182 => (if t182 = true then ((postings_Without.f k y154 y157).bind fun t183 => ((lookoutref08_Same.f k t183 (([1, 5] : List Int))).bind fun t189 => (if t189 = true then ((postings_Seek.f k y154 4).bind fun t190 => (if t190 = 2 then (if t164 = 0 then (if t166 = 0 then (if t163.toList = ([3, 1, 1, 168, 2] : List UInt8) then ((lookoutref08_Same.f k t165 (([1, 3, 300] : List Int))).bind fun t194 => (some t194)) else (none)) else (none)) else (none)) else (none))) else (none)))) else (none)))) else (none))) = some r := by first | (rw [hy172]; with_reducible exact H) | (have H2_ := (Option.bind_some _ _).symm.trans H; rw [hy172]; with_reducible exact H2_) | (have H2_ := (Option.bind_some _ _).symm.trans H; with_reducible exact H2_) | with_reducible exact H | (rw [hy172]; exact H) | exact H
  have Ny172 := Aside0.mk hy172
  clear hy172
  replace H := Option.bind_eq_some_iff.mp H
  obtain ⟨t175, A40, H⟩ := H
  replace H : (if t175 = true then ((postings_Or.f k y154 y157).bind fun t176 => ((lookoutref08_Same.f k t176 (([1, 3, 4, 5] : List Int))).bind fun t182 => (if t182 = true then ((postings_Without.f k y154 y157).bind fun t183 => ((lookoutref08_Same.f k t183 (([1, 5] : List Int))).bind fun t189 => (if t189 = true then ((postings_Seek.f k y154 4).bind fun t190 => (if t190 = 2 then (if t164 = 0 then (if t166 = 0 then (if t163.toList = ([3, 1, 1, 168, 2] : List UInt8) then ((lookoutref08_Same.f k t165 (([1, 3, 300] : List Int))).bind fun t194 => (some t194)) else (none)) else (none)) else (none)) else (none))) else (none)))) else (none)))) else (none)) = some r := H
  have A4 := Aside0.mk A40
  clear A40
  by_cases c5 : t175 = true
  · subst c5
    have H1 : ((postings_Or.f k y154 y157).bind fun t176 => ((lookoutref08_Same.f k t176 (([1, 3, 4, 5] : List Int))).bind fun t182 => (if t182 = true then ((postings_Without.f k y154 y157).bind fun t183 => ((lookoutref08_Same.f k t183 (([1, 5] : List Int))).bind fun t189 => (if t189 = true then ((postings_Seek.f k y154 4).bind fun t190 => (if t190 = 2 then (if t164 = 0 then (if t166 = 0 then (if t163.toList = ([3, 1, 1, 168, 2] : List UInt8) then ((lookoutref08_Same.f k t165 (([1, 3, 300] : List Int))).bind fun t194 => (some t194)) else (none)) else (none)) else (none)) else (none))) else (none)))) else (none)))) = some r := by rw [if_pos rfl] at H; exact H
    clear H
    have H := H1
    clear H1
    replace H := Option.bind_eq_some_iff.mp H
    obtain ⟨t176, A60, H⟩ := H
    replace H : ((lookoutref08_Same.f k t176 (([1, 3, 4, 5] : List Int))).bind fun t182 => (if t182 = true then ((postings_Without.f k y154 y157).bind fun t183 => ((lookoutref08_Same.f k t183 (([1, 5] : List Int))).bind fun t189 => (if t189 = true then ((postings_Seek.f k y154 4).bind fun t190 => (if t190 = 2 then (if t164 = 0 then (if t166 = 0 then (if t163.toList = ([3, 1, 1, 168, 2] : List UInt8) then ((lookoutref08_Same.f k t165 (([1, 3, 300] : List Int))).bind fun t194 => (some t194)) else (none)) else (none)) else (none)) else (none))) else (none)))) else (none))) = some r := H
    have A6 := Aside0.mk A60
    clear A60
    obtain ⟨y179, hy179⟩ : ∃ y_ : List Int, y_ = (([1, 3, 4, 5] : List Int)) := ⟨_, rfl⟩
    replace H : ((lookoutref08_Same.f k t176 y179).bind fun t182 => (if t182 = true then ((postings_Without.f k y154 y157).bind fun t183 => ((lookoutref08_Same.f k t183 (([1, 5] : List Int))).bind fun t189 => (if t189 = true then ((postings_Seek.f k y154 4).bind fun t190 => (if t190 = 2 then (if t164 = 0 then (if t166 = 0 then (if t163.toList = ([3, 1, 1, 168, 2] : List UInt8) then ((lookoutref08_Same.f k t165 (([1, 3, 300] : List Int))).bind fun t194 => (some t194)) else (none)) else (none)) else (none)) else (none))) else (none)))) else (none))) = some r := by first | (rw [hy179]; with_reducible exact H) | (have H2_ := (Option.bind_some _ _).symm.trans H; rw [hy179]; with_reducible exact H2_) | (have H2_ := (Option.bind_some _ _).symm.trans H; with_reducible exact H2_) | with_reducible exact H | (rw [hy179]; exact H) | exact H
    have Ny179 := Aside0.mk hy179
    clear hy179
    replace H := Option.bind_eq_some_iff.mp H
    obtain ⟨t182, A70, H⟩ := H
    replace H : (if t182 = true then ((postings_Without.f k y154 y157).bind fun t183 => ((lookoutref08_Same.f k t183 (([1, 5] : List Int))).bind fun t189 => (if t189 = true then ((postings_Seek.f k y154 4).bind fun t190 => (if t190 = 2 then (if t164 = 0 then (if t166 = 0 then (if t163.toList = ([3, 1, 1, 168, 2] : List UInt8) then ((lookoutref08_Same.f k t165 (([1, 3, 300] : List Int))).bind fun t194 => (some t194)) else (none)) else (none)) else (none)) else (none))) else (none)))) else (none)) = some r := H
    have A7 := Aside0.mk A70
    clear A70
    by_cases c8 : t182 = true
    · subst c8
      have H1 : ((postings_Without.f k y154 y157).bind fun t183 => ((lookoutref08_Same.f k t183 (([1, 5] : List Int))).bind fun t189 => (if t189 = true then ((postings_Seek.f k y154 4).bind fun t190 => (if t190 = 2 then (if t164 = 0 then (if t166 = 0 then (if t163.toList = ([3, 1, 1, 168, 2] : List UInt8) then ((lookoutref08_Same.f k t165 (([1, 3, 300] : List Int))).bind fun t194 => (some t194)) else (none)) else (none)) else (none)) else (none))) else (none)))) = some r := by rw [if_pos rfl] at H; exact H
      clear H
      have H := H1
      clear H1
      replace H := Option.bind_eq_some_iff.mp H
      obtain ⟨t183, A90, H⟩ := H
      replace H : ((lookoutref08_Same.f k t183 (([1, 5] : List Int))).bind fun t189 => (if t189 = true then ((postings_Seek.f k y154 4).bind fun t190 => (if t190 = 2 then (if t164 = 0 then (if t166 = 0 then (if t163.toList = ([3, 1, 1, 168, 2] : List UInt8) then ((lookoutref08_Same.f k t165 (([1, 3, 300] : List Int))).bind fun t194 => (some t194)) else (none)) else (none)) else (none)) else (none))) else (none))) = some r := H
      have A9 := Aside0.mk A90
      clear A90
      obtain ⟨y186, hy186⟩ : ∃ y_ : List Int, y_ = (([1, 5] : List Int)) := ⟨_, rfl⟩
      replace H : ((lookoutref08_Same.f k t183 y186).bind fun t189 => (if t189 = true then ((postings_Seek.f k y154 4).bind fun t190 => (if t190 = 2 then (if t164 = 0 then (if t166 = 0 then (if t163.toList = ([3, 1, 1, 168, 2] : List UInt8) then ((lookoutref08_Same.f k t165 (([1, 3, 300] : List Int))).bind fun t194 => (some t194)) else (none)) else (none)) else (none)) else (none))) else (none))) = some r := by first | (rw [hy186]; with_reducible exact H) | (have H2_ := (Option.bind_some _ _).symm.trans H; rw [hy186]; with_reducible exact H2_) | (have H2_ := (Option.bind_some _ _).symm.trans H; with_reducible exact H2_) | with_reducible exact H | (rw [hy186]; exact H) | exact H
      have Ny186 := Aside0.mk hy186
      clear hy186
      replace H := Option.bind_eq_some_iff.mp H
      obtain ⟨t189, A100, H⟩ := H
      replace H : (if t189 = true then ((postings_Seek.f k y154 4).bind fun t190 => (if t190 = 2 then (if t164 = 0 then (if t166 = 0 then (if t163.toList = ([3, 1, 1, 168, 2] : List UInt8) then ((lookoutref08_Same.f k t165 (([1, 3, 300] : List Int))).bind fun t194 => (some t194)) else (none)) else (none)) else (none)) else (none))) else (none)) = some r := H
      have A10 := Aside0.mk A100
      clear A100
      by_cases c11 : t189 = true
      · subst c11
        have H1 : ((postings_Seek.f k y154 4).bind fun t190 => (if t190 = 2 then (if t164 = 0 then (if t166 = 0 then (if t163.toList = ([3, 1, 1, 168, 2] : List UInt8) then ((lookoutref08_Same.f k t165 (([1, 3, 300] : List Int))).bind fun t194 => (some t194)) else (none)) else (none)) else (none)) else (none))) = some r := by rw [if_pos rfl] at H; exact H
        clear H
        have H := H1
        clear H1
        replace H := Option.bind_eq_some_iff.mp H
        obtain ⟨t190, A120, H⟩ := H
        replace H : (if t190 = 2 then (if t164 = 0 then (if t166 = 0 then (if t163.toList = ([3, 1, 1, 168, 2] : List UInt8) then ((lookoutref08_Same.f k t165 (([1, 3, 300] : List Int))).bind fun t194 => (some t194)) else (none)) else (none)) else (none)) else (none)) = some r := H
        have A12 := Aside0.mk A120
        clear A120
        by_cases c13 : t190 = 2
        · rw [if_pos c13] at H
          have c13b0 : (t190 == 2) = true := beq_iff_eq.mpr c13
          have c13b1 : (t190 != 2) = false := bne_eq_false_iff_eq.mpr c13
          clear c13
          by_cases c14 : t164 = 0
          · rw [if_pos c14] at H
            have c14b0 : (t164 == 0) = true := beq_iff_eq.mpr c14
            have c14b1 : (t164 != 0) = false := bne_eq_false_iff_eq.mpr c14
            clear c14
            by_cases c15 : t166 = 0
            · rw [if_pos c15] at H
              have c15b0 : (t166 == 0) = true := beq_iff_eq.mpr c15
              have c15b1 : (t166 != 0) = false := bne_eq_false_iff_eq.mpr c15
              clear c15
              by_cases c16 : t163.toList = ([3, 1, 1, 168, 2] : List UInt8)
              · rw [if_pos c16] at H
                have c16b0 : (t163.toList == ([3, 1, 1, 168, 2] : List UInt8)) = true := beq_iff_eq.mpr c16
                have c16b1 : (t163.toList != ([3, 1, 1, 168, 2] : List UInt8)) = false := bne_eq_false_iff_eq.mpr c16
                clear c16
                obtain ⟨y191, hy191⟩ : ∃ y_ : List Int, y_ = (([1, 3, 300] : List Int)) := ⟨_, rfl⟩
                replace H : ((lookoutref08_Same.f k t165 y191).bind fun t194 => (some t194)) = some r := by first | (rw [hy191]; with_reducible exact H) | (have H2_ := (Option.bind_some _ _).symm.trans H; rw [hy191]; with_reducible exact H2_) | (have H2_ := (Option.bind_some _ _).symm.trans H; with_reducible exact H2_) | with_reducible exact H | (rw [hy191]; exact H) | exact H
                have Ny191 := Aside0.mk hy191
                clear hy191
                replace H := Option.bind_eq_some_iff.mp H
                obtain ⟨t194, A170, H⟩ := H
                replace H : (some t194) = some r := H
                have A17 := Aside0.mk A170
                clear A170
                obtain rfl := Option.some.inj H
                go_enter Try.func12, Try.ntmps12
                go_wp2_with (first | ((with_reducible refine gate_dst (N := 7) rfl ?_); (try (refine gate_guard (by rfl) ?_; dsimp only)); refine Kd.R_lit (Kd.int .i64) _ 3 ?hg (N := 7) ?hd (xs := ([1, 3, 5] : List Int)) (inner := [.int .i64 1, .int .i64 3, .int .i64 5]) (ok := fun _ => True) (okp := fun _ => True) ?hr ?hp (fun _ hk => hk) trivial (Below.refl _ _) (Nat.le_refl _) (by simp) ?_; (case hd => rfl); (case hg => rfl); (case hr => first | (go_simp; done) | (go_simp; rfl)); (case hp => exact (Reps.one (show Kd.M (Kd.int .i64) _ _ _ 1 [.int .i64 1] from rfl) (Reps.one (show Kd.M (Kd.int .i64) _ _ _ 3 [.int .i64 3] from rfl) (Reps.one (show Kd.M (Kd.int .i64) _ _ _ 5 [.int .i64 5] from rfl) (Reps.none _ _))))); intro v155 w18 ho19 hb hg_ hnew_; clear hg_ hnew_; (first | rw [← Ny154.out] at ho19 | (simp only [Int.reduceToNat] at ho19; rw [← Ny154.out] at ho19)); have n0_ := Aside0.mk (Kd.R_lower ho19 (below_size (by repeat (first | (with_reducible first | exact HB.out | apply below_alloc | apply pw_below_drewN | apply below_drew1) | exact HB.out)))); have n1_ := Aside0.mk (below_step (by repeat (first | (with_reducible first | exact HB.out | apply below_alloc | apply pw_below_drewN | apply below_drew1) | exact HB.out)) hb); clear HB; have HO156 := n0_; have HB := n1_; clear n0_ n1_; clear hb ho19) | ((with_reducible refine gate_dst (N := 8) rfl ?_); (try (refine gate_guard (by rfl) ?_; dsimp only)); refine Kd.R_lit (Kd.int .i64) _ 3 ?hg (N := 8) ?hd (xs := ([3, 4] : List Int)) (inner := [.int .i64 3, .int .i64 4]) (ok := fun _ => True) (okp := fun _ => True) ?hr ?hp (fun _ hk => hk) trivial (Below.refl _ _) (Nat.le_refl _) (by simp) ?_; (case hd => rfl); (case hg => rfl); (case hr => first | (go_simp; done) | (go_simp; rfl)); (case hp => exact (Reps.one (show Kd.M (Kd.int .i64) _ _ _ 3 [.int .i64 3] from rfl) (Reps.one (show Kd.M (Kd.int .i64) _ _ _ 4 [.int .i64 4] from rfl) (Reps.none _ _)))); intro v158 w20 ho21 hb hg_ hnew_; clear hg_ hnew_; (first | rw [← Ny157.out] at ho21 | (simp only [Int.reduceToNat] at ho21; rw [← Ny157.out] at ho21)); have n0_ := Aside0.mk (Kd.R_elder' (by (with_reducible repeat (first | apply Kd.R_alloc | apply Kd.R_drewN | apply Kd.R_drew)); exact HO156.out) (Kd.R_base ho21) hb); have n1_ := Aside0.mk (Kd.R_lower (Kd.R_new' ho21 (Kd.R_lt (by (with_reducible repeat (first | apply Kd.R_alloc | apply Kd.R_drewN | apply Kd.R_drew)); exact HO156.out))) (below_size (by repeat (first | (with_reducible first | exact HB.out | apply below_alloc | apply pw_below_drewN | apply below_drew1) | exact HB.out)))); have n2_ := Aside0.mk (below_step (by repeat (first | (with_reducible first | exact HB.out | apply below_alloc | apply pw_below_drewN | apply below_drew1) | exact HB.out)) hb); clear HO156; clear HB; have HO156 := n0_; have HO159 := n1_; have HB := n2_; clear n0_ n1_ n2_; clear hb ho21) | ((with_reducible refine gate_dst (N := 10) rfl ?_); (try (refine gate_guard (by rfl) ?_; dsimp only)); refine Kd.R_lit (Kd.int .i64) _ 3 ?hg (N := 10) ?hd (xs := ([1, 3, 300] : List Int)) (inner := [.int .i64 1, .int .i64 3, .int .i64 300]) (ok := fun _ => True) (okp := fun _ => True) ?hr ?hp (fun _ hk => hk) trivial (Below.refl _ _) (Nat.le_refl _) (by simp) ?_; (case hd => rfl); (case hg => rfl); (case hr => first | (go_simp; done) | (go_simp; rfl)); (case hp => exact (Reps.one (show Kd.M (Kd.int .i64) _ _ _ 1 [.int .i64 1] from rfl) (Reps.one (show Kd.M (Kd.int .i64) _ _ _ 3 [.int .i64 3] from rfl) (Reps.one (show Kd.M (Kd.int .i64) _ _ _ 300 [.int .i64 300] from rfl) (Reps.none _ _))))); intro v161 w22 ho23 hb hg_ hnew_; clear hg_ hnew_; (first | rw [← Ny160.out] at ho23 | (simp only [Int.reduceToNat] at ho23; rw [← Ny160.out] at ho23)); have n0_ := Aside0.mk (Kd.R_elder' (by (with_reducible repeat (first | apply Kd.R_alloc | apply Kd.R_drewN | apply Kd.R_drew)); exact HO156.out) (Kd.R_base ho23) hb); have n1_ := Aside0.mk (Kd.R_elder' (by (with_reducible repeat (first | apply Kd.R_alloc | apply Kd.R_drewN | apply Kd.R_drew)); exact HO159.out) (Kd.R_base ho23) hb); have n2_ := Aside0.mk (Kd.R_lower (Kd.R_new' (Kd.R_new' ho23 (Kd.R_lt (by (with_reducible repeat (first | apply Kd.R_alloc | apply Kd.R_drewN | apply Kd.R_drew)); exact HO156.out))) (Kd.R_lt (by (with_reducible repeat (first | apply Kd.R_alloc | apply Kd.R_drewN | apply Kd.R_drew)); exact HO159.out))) (below_size (by repeat (first | (with_reducible first | exact HB.out | apply below_alloc | apply pw_below_drewN | apply below_drew1) | exact HB.out)))); have n3_ := Aside0.mk (below_step (by repeat (first | (with_reducible first | exact HB.out | apply below_alloc | apply pw_below_drewN | apply below_drew1) | exact HB.out)) hb); clear HO156; clear HO159; clear HB; have HO156 := n0_; have HO159 := n1_; have HO162 := n2_; have HB := n3_; clear n0_ n1_ n2_ n3_; clear hb ho23; obtain ⟨Ao24, co24, eo24⟩ := Kd.R_slice HO162.out; subst eo24) | ((with_reducible refine gate_callee (f := 27) rfl ?_); refine goesL_ (some 11) rfl rfl Try.func27 (by kernel_rfl) rfl #[.slice Ao24 y160.length co24] rfl (by (try simp only [List.map_toArray, List.map_cons, List.map_nil]); first | done | rfl | (simp only [List.length_drop, List.length_take]; rfl)) ?_; (with_reducible refine (postings_Encode.calls k _ _ y160 t163 t164 _ ?side1 ?side2 A1.out).mono ?_); (case side1 => repeat (first | exact (Kd.R_reads' HO162.out).2.2 | (with_reducible refine Kd.C_alloc ?_ _) | (with_reducible refine Kd.C_drewN ?_ _) | (with_reducible refine Kd.C_drew ?_))); (case side2 => exact (Kd.R_reads' HO162.out).2.1); rintro e w25 ⟨rfl, hb⟩; refine ⟨_, rfl, ?_⟩; have n0_ := Aside0.mk (Kd.R_below (by (with_reducible repeat (first | apply Kd.R_alloc | apply Kd.R_drewN | apply Kd.R_drew)); exact HO156.out) hb); have n1_ := Aside0.mk (Kd.R_below (by (with_reducible repeat (first | apply Kd.R_alloc | apply Kd.R_drewN | apply Kd.R_drew)); exact HO159.out) hb); have n2_ := Aside0.mk (Kd.R_below (by (with_reducible repeat (first | apply Kd.R_alloc | apply Kd.R_drewN | apply Kd.R_drew)); exact HO162.out) hb); have n3_ := Aside0.mk (below_step (by repeat (first | (with_reducible first | exact HB.out | apply below_alloc | apply pw_below_drewN | apply below_drew1) | exact HB.out)) hb); clear HO156; clear HO159; clear HO162; clear HB; have HO156 := n0_; have HO159 := n1_; have HO162 := n2_; have HB := n3_; clear n0_ n1_ n2_ n3_; (try clear hb); (try clear hb2); (try clear hk); (try clear hi)) | ((with_reducible refine gate_callee (f := 13) rfl ?_); refine goesL_ (some 16) rfl rfl Try.func13 (by kernel_rfl) rfl #[.string t163] rfl (by (try simp only [List.map_toArray, List.map_cons, List.map_nil]); first | done | rfl | (simp only [List.length_drop, List.length_take]; rfl)) ?_; (with_reducible refine (postings_Decode.calls k t163 t165 t166 _ A2.out).mono ?_); rintro e w26 ⟨v167, rfl, ho0, hb⟩; refine ⟨_, rfl, ?_⟩; have n0_ := Aside0.mk (Kd.R_elder' (by (with_reducible repeat (first | apply Kd.R_alloc | apply Kd.R_drewN | apply Kd.R_drew)); exact HO156.out) (Kd.R_base ho0) hb); have n1_ := Aside0.mk (Kd.R_elder' (by (with_reducible repeat (first | apply Kd.R_alloc | apply Kd.R_drewN | apply Kd.R_drew)); exact HO159.out) (Kd.R_base ho0) hb); have n2_ := Aside0.mk (Kd.R_elder' (by (with_reducible repeat (first | apply Kd.R_alloc | apply Kd.R_drewN | apply Kd.R_drew)); exact HO162.out) (Kd.R_base ho0) hb); have n3_ := Aside0.mk (Kd.R_lower (Kd.R_new' (Kd.R_new' (Kd.R_new' ho0 (Kd.R_lt (by (with_reducible repeat (first | apply Kd.R_alloc | apply Kd.R_drewN | apply Kd.R_drew)); exact HO156.out))) (Kd.R_lt (by (with_reducible repeat (first | apply Kd.R_alloc | apply Kd.R_drewN | apply Kd.R_drew)); exact HO159.out))) (Kd.R_lt (by (with_reducible repeat (first | apply Kd.R_alloc | apply Kd.R_drewN | apply Kd.R_drew)); exact HO162.out))) (below_size (by repeat (first | (with_reducible first | exact HB.out | apply below_alloc | apply pw_below_drewN | apply below_drew1) | exact HB.out)))); have n4_ := Aside0.mk (below_step (by repeat (first | (with_reducible first | exact HB.out | apply below_alloc | apply pw_below_drewN | apply below_drew1) | exact HB.out)) hb); clear HO156; clear HO159; clear HO162; clear HB; have HO156 := n0_; have HO159 := n1_; have HO162 := n2_; have HO168 := n3_; have HB := n4_; clear n0_ n1_ n2_ n3_ n4_; (try clear hb); (try clear hb2); (try clear hk); (try clear hi); (try clear ho0); obtain ⟨Ao27, co27, eo27⟩ := Kd.R_slice HO156.out; subst eo27; obtain ⟨Ao28, co28, eo28⟩ := Kd.R_slice HO159.out; subst eo28) | ((with_reducible refine gate_callee (f := 19) rfl ?_); refine goesL_ (some 21) rfl rfl Try.func19 (by kernel_rfl) rfl #[.slice Ao27 y154.length co27, .slice Ao28 y157.length co28] rfl (by (try simp only [List.map_toArray, List.map_cons, List.map_nil]); first | done | rfl | (simp only [List.length_drop, List.length_take]; rfl)) ?_; (with_reducible refine (postings_And.calls k (fun k_ => some k_ = (.slice Ao27 y154.length co27 : Value).ownBlock) _ _ y154 (fun k_ => some k_ = (.slice Ao28 y157.length co28 : Value).ownBlock) _ _ y157 t169 _ ?side1 ?side2 A3.out).mono ?_); (case side1 => exact Kd.R_V (Kd.R_tight rfl (HO156.out))); (case side2 => exact Kd.R_V (Kd.R_tight rfl (HO159.out))); rintro e w29 ⟨v170, rfl, ho0, hb⟩; refine ⟨_, rfl, ?_⟩; have n0_ := Aside0.mk (Kd.R_elder' (by (with_reducible repeat (first | apply Kd.R_alloc | apply Kd.R_drewN | apply Kd.R_drew)); exact HO156.out) (Kd.R_base ho0) hb); have n1_ := Aside0.mk (Kd.R_elder' (by (with_reducible repeat (first | apply Kd.R_alloc | apply Kd.R_drewN | apply Kd.R_drew)); exact HO159.out) (Kd.R_base ho0) hb); have n2_ := Aside0.mk (Kd.R_elder' (by (with_reducible repeat (first | apply Kd.R_alloc | apply Kd.R_drewN | apply Kd.R_drew)); exact HO162.out) (Kd.R_base ho0) hb); have n3_ := Aside0.mk (Kd.R_elder' (by (with_reducible repeat (first | apply Kd.R_alloc | apply Kd.R_drewN | apply Kd.R_drew)); exact HO168.out) (Kd.R_base ho0) hb); have n4_ := Aside0.mk (Kd.R_lower (Kd.R_new' (Kd.R_new' (Kd.R_new' (Kd.R_new' (Kd.R_mono (ok' := fun k_ => True) ho0 (fun _ hk_ => trivial)) (Kd.R_lt (by (with_reducible repeat (first | apply Kd.R_alloc | apply Kd.R_drewN | apply Kd.R_drew)); exact HO156.out))) (Kd.R_lt (by (with_reducible repeat (first | apply Kd.R_alloc | apply Kd.R_drewN | apply Kd.R_drew)); exact HO159.out))) (Kd.R_lt (by (with_reducible repeat (first | apply Kd.R_alloc | apply Kd.R_drewN | apply Kd.R_drew)); exact HO162.out))) (Kd.R_lt (by (with_reducible repeat (first | apply Kd.R_alloc | apply Kd.R_drewN | apply Kd.R_drew)); exact HO168.out))) (below_size (by repeat (first | (with_reducible first | exact HB.out | apply below_alloc | apply pw_below_drewN | apply below_drew1) | exact HB.out)))); have n5_ := Aside0.mk (below_step (by repeat (first | (with_reducible first | exact HB.out | apply below_alloc | apply pw_below_drewN | apply below_drew1) | exact HB.out)) hb); clear HO156; clear HO159; clear HO162; clear HO168; clear HB; have HO156 := n0_; have HO159 := n1_; have HO162 := n2_; have HO168 := n3_; have HO171 := n4_; have HB := n5_; clear n0_ n1_ n2_ n3_ n4_ n5_; (try clear hb); (try clear hb2); (try clear hk); (try clear hi); (try clear ho0)) | ((with_reducible refine gate_dst (N := 22) rfl ?_); (try (refine gate_guard (by rfl) ?_; dsimp only)); refine Kd.R_lit (Kd.int .i64) _ 3 ?hg (N := 22) ?hd (xs := ([3] : List Int)) (inner := [.int .i64 3]) (ok := fun _ => True) (okp := fun _ => True) ?hr ?hp (fun _ hk => hk) trivial (Below.refl _ _) (Nat.le_refl _) (by simp) ?_; (case hd => rfl); (case hg => rfl); (case hr => first | (go_simp; done) | (go_simp; rfl)); (case hp => exact (Reps.one (show Kd.M (Kd.int .i64) _ _ _ 3 [.int .i64 3] from rfl) (Reps.none _ _))); intro v173 w30 ho31 hb hg_ hnew_; clear hg_ hnew_; (first | rw [← Ny172.out] at ho31 | (simp only [Int.reduceToNat] at ho31; rw [← Ny172.out] at ho31)); have n0_ := Aside0.mk (Kd.R_elder' (by (with_reducible repeat (first | apply Kd.R_alloc | apply Kd.R_drewN | apply Kd.R_drew)); exact HO156.out) (Kd.R_base ho31) hb); have n1_ := Aside0.mk (Kd.R_elder' (by (with_reducible repeat (first | apply Kd.R_alloc | apply Kd.R_drewN | apply Kd.R_drew)); exact HO159.out) (Kd.R_base ho31) hb); have n2_ := Aside0.mk (Kd.R_elder' (by (with_reducible repeat (first | apply Kd.R_alloc | apply Kd.R_drewN | apply Kd.R_drew)); exact HO162.out) (Kd.R_base ho31) hb); have n3_ := Aside0.mk (Kd.R_elder' (by (with_reducible repeat (first | apply Kd.R_alloc | apply Kd.R_drewN | apply Kd.R_drew)); exact HO168.out) (Kd.R_base ho31) hb); have n4_ := Aside0.mk (Kd.R_elder' (by (with_reducible repeat (first | apply Kd.R_alloc | apply Kd.R_drewN | apply Kd.R_drew)); exact HO171.out) (Kd.R_base ho31) hb); have n5_ := Aside0.mk (Kd.R_lower (Kd.R_new' (Kd.R_new' (Kd.R_new' (Kd.R_new' (Kd.R_new' ho31 (Kd.R_lt (by (with_reducible repeat (first | apply Kd.R_alloc | apply Kd.R_drewN | apply Kd.R_drew)); exact HO156.out))) (Kd.R_lt (by (with_reducible repeat (first | apply Kd.R_alloc | apply Kd.R_drewN | apply Kd.R_drew)); exact HO159.out))) (Kd.R_lt (by (with_reducible repeat (first | apply Kd.R_alloc | apply Kd.R_drewN | apply Kd.R_drew)); exact HO162.out))) (Kd.R_lt (by (with_reducible repeat (first | apply Kd.R_alloc | apply Kd.R_drewN | apply Kd.R_drew)); exact HO168.out))) (Kd.R_lt (by (with_reducible repeat (first | apply Kd.R_alloc | apply Kd.R_drewN | apply Kd.R_drew)); exact HO171.out))) (below_size (by repeat (first | (with_reducible first | exact HB.out | apply below_alloc | apply pw_below_drewN | apply below_drew1) | exact HB.out)))); have n6_ := Aside0.mk (below_step (by repeat (first | (with_reducible first | exact HB.out | apply below_alloc | apply pw_below_drewN | apply below_drew1) | exact HB.out)) hb); clear HO156; clear HO159; clear HO162; clear HO168; clear HO171; clear HB; have HO156 := n0_; have HO159 := n1_; have HO162 := n2_; have HO168 := n3_; have HO171 := n4_; have HO174 := n5_; have HB := n6_; clear n0_ n1_ n2_ n3_ n4_ n5_ n6_; clear hb ho31; obtain ⟨Ao32, co32, eo32⟩ := Kd.R_slice HO171.out; subst eo32; obtain ⟨Ao33, co33, eo33⟩ := Kd.R_slice HO174.out; subst eo33) | ((with_reducible refine gate_callee (f := 15) rfl ?_); refine goesL_ (some 23) rfl rfl Try.func15 (by kernel_rfl) rfl #[.slice Ao32 t169.length co32, .slice Ao33 y172.length co33] rfl (by (try simp only [List.map_toArray, List.map_cons, List.map_nil]); first | done | rfl | (simp only [List.length_drop, List.length_take]; rfl)) ?_; (with_reducible refine (lookoutref08_Same.calls k _ _ t169 _ _ y172 true _ ?side1 ?side2 ?side3 ?side4 A4.out).mono ?_); (case side1 => repeat (first | exact (Kd.R_reads' HO171.out).2.2 | (with_reducible refine Kd.C_alloc ?_ _) | (with_reducible refine Kd.C_drewN ?_ _) | (with_reducible refine Kd.C_drew ?_))); (case side2 => exact (Kd.R_reads' HO171.out).2.1); (case side3 => repeat (first | exact (Kd.R_reads' HO174.out).2.2 | (with_reducible refine Kd.C_alloc ?_ _) | (with_reducible refine Kd.C_drewN ?_ _) | (with_reducible refine Kd.C_drew ?_))); (case side4 => exact (Kd.R_reads' HO174.out).2.1); rintro e w' ⟨rfl, ⟨nd, rfl⟩⟩; refine ⟨_, rfl, ?_⟩) | (go_at_call 21; (with_reducible refine (postings_Or.calls k (fun k_ => some k_ = (.slice Ao27 y154.length co27 : Value).ownBlock) _ _ y154 (fun k_ => some k_ = (.slice Ao28 y157.length co28 : Value).ownBlock) _ _ y157 t176 _ ?side1 ?side2 A6.out).mono ?_); (case side1 => exact Kd.R_V (Kd.R_tight rfl (HO156.out))); (case side2 => exact Kd.R_V (Kd.R_tight rfl (HO159.out))); rintro e w34 ⟨v177, rfl, ho0, hb⟩; have n0_ := Aside0.mk (Kd.R_elder' (by (with_reducible repeat (first | apply Kd.R_alloc | apply Kd.R_drewN | apply Kd.R_drew)); exact HO156.out) (Kd.R_base ho0) hb); have n1_ := Aside0.mk (Kd.R_elder' (by (with_reducible repeat (first | apply Kd.R_alloc | apply Kd.R_drewN | apply Kd.R_drew)); exact HO159.out) (Kd.R_base ho0) hb); have n2_ := Aside0.mk (Kd.R_elder' (by (with_reducible repeat (first | apply Kd.R_alloc | apply Kd.R_drewN | apply Kd.R_drew)); exact HO162.out) (Kd.R_base ho0) hb); have n3_ := Aside0.mk (Kd.R_elder' (by (with_reducible repeat (first | apply Kd.R_alloc | apply Kd.R_drewN | apply Kd.R_drew)); exact HO168.out) (Kd.R_base ho0) hb); have n4_ := Aside0.mk (Kd.R_elder' (by (with_reducible repeat (first | apply Kd.R_alloc | apply Kd.R_drewN | apply Kd.R_drew)); exact HO171.out) (Kd.R_base ho0) hb); have n5_ := Aside0.mk (Kd.R_elder' (by (with_reducible repeat (first | apply Kd.R_alloc | apply Kd.R_drewN | apply Kd.R_drew)); exact HO174.out) (Kd.R_base ho0) hb); have n6_ := Aside0.mk (Kd.R_lower (Kd.R_new' (Kd.R_new' (Kd.R_new' (Kd.R_new' (Kd.R_new' (Kd.R_new' (Kd.R_mono (ok' := fun k_ => True) ho0 (fun _ hk_ => trivial)) (Kd.R_lt (by (with_reducible repeat (first | apply Kd.R_alloc | apply Kd.R_drewN | apply Kd.R_drew)); exact HO156.out))) (Kd.R_lt (by (with_reducible repeat (first | apply Kd.R_alloc | apply Kd.R_drewN | apply Kd.R_drew)); exact HO159.out))) (Kd.R_lt (by (with_reducible repeat (first | apply Kd.R_alloc | apply Kd.R_drewN | apply Kd.R_drew)); exact HO162.out))) (Kd.R_lt (by (with_reducible repeat (first | apply Kd.R_alloc | apply Kd.R_drewN | apply Kd.R_drew)); exact HO168.out))) (Kd.R_lt (by (with_reducible repeat (first | apply Kd.R_alloc | apply Kd.R_drewN | apply Kd.R_drew)); exact HO171.out))) (Kd.R_lt (by (with_reducible repeat (first | apply Kd.R_alloc | apply Kd.R_drewN | apply Kd.R_drew)); exact HO174.out))) (below_size (by repeat (first | (with_reducible first | exact HB.out | apply below_alloc | apply pw_below_drewN | apply below_drew1) | exact HB.out)))); have n7_ := Aside0.mk (below_step (by repeat (first | (with_reducible first | exact HB.out | apply below_alloc | apply pw_below_drewN | apply below_drew1) | exact HB.out)) hb); clear HO156; clear HO159; clear HO162; clear HO168; clear HO171; clear HO174; clear HB; have HO156 := n0_; have HO159 := n1_; have HO162 := n2_; have HO168 := n3_; have HO171 := n4_; have HO174 := n5_; have HO178 := n6_; have HB := n7_; clear n0_ n1_ n2_ n3_ n4_ n5_ n6_ n7_; (try clear hb); (try clear hb2); (try clear hk); (try clear hi); (try clear ho0)) | ((with_reducible refine gate_dst (N := 28) rfl ?_); (try (refine gate_guard (by rfl) ?_; dsimp only)); refine Kd.R_lit (Kd.int .i64) _ 3 ?hg (N := 28) ?hd (xs := ([1, 3, 4, 5] : List Int)) (inner := [.int .i64 1, .int .i64 3, .int .i64 4, .int .i64 5]) (ok := fun _ => True) (okp := fun _ => True) ?hr ?hp (fun _ hk => hk) trivial (Below.refl _ _) (Nat.le_refl _) (by simp) ?_; (case hd => rfl); (case hg => rfl); (case hr => first | (go_simp; done) | (go_simp; rfl)); (case hp => exact (Reps.one (show Kd.M (Kd.int .i64) _ _ _ 1 [.int .i64 1] from rfl) (Reps.one (show Kd.M (Kd.int .i64) _ _ _ 3 [.int .i64 3] from rfl) (Reps.one (show Kd.M (Kd.int .i64) _ _ _ 4 [.int .i64 4] from rfl) (Reps.one (show Kd.M (Kd.int .i64) _ _ _ 5 [.int .i64 5] from rfl) (Reps.none _ _)))))); intro v180 w35 ho36 hb hg_ hnew_; clear hg_ hnew_; (first | rw [← Ny179.out] at ho36 | (simp only [Int.reduceToNat] at ho36; rw [← Ny179.out] at ho36)); have n0_ := Aside0.mk (Kd.R_elder' (by (with_reducible repeat (first | apply Kd.R_alloc | apply Kd.R_drewN | apply Kd.R_drew)); exact HO156.out) (Kd.R_base ho36) hb); have n1_ := Aside0.mk (Kd.R_elder' (by (with_reducible repeat (first | apply Kd.R_alloc | apply Kd.R_drewN | apply Kd.R_drew)); exact HO159.out) (Kd.R_base ho36) hb); have n2_ := Aside0.mk (Kd.R_elder' (by (with_reducible repeat (first | apply Kd.R_alloc | apply Kd.R_drewN | apply Kd.R_drew)); exact HO162.out) (Kd.R_base ho36) hb); have n3_ := Aside0.mk (Kd.R_elder' (by (with_reducible repeat (first | apply Kd.R_alloc | apply Kd.R_drewN | apply Kd.R_drew)); exact HO168.out) (Kd.R_base ho36) hb); have n4_ := Aside0.mk (Kd.R_elder' (by (with_reducible repeat (first | apply Kd.R_alloc | apply Kd.R_drewN | apply Kd.R_drew)); exact HO171.out) (Kd.R_base ho36) hb); have n5_ := Aside0.mk (Kd.R_elder' (by (with_reducible repeat (first | apply Kd.R_alloc | apply Kd.R_drewN | apply Kd.R_drew)); exact HO174.out) (Kd.R_base ho36) hb); have n6_ := Aside0.mk (Kd.R_elder' (by (with_reducible repeat (first | apply Kd.R_alloc | apply Kd.R_drewN | apply Kd.R_drew)); exact HO178.out) (Kd.R_base ho36) hb); have n7_ := Aside0.mk (Kd.R_lower (Kd.R_new' (Kd.R_new' (Kd.R_new' (Kd.R_new' (Kd.R_new' (Kd.R_new' (Kd.R_new' ho36 (Kd.R_lt (by (with_reducible repeat (first | apply Kd.R_alloc | apply Kd.R_drewN | apply Kd.R_drew)); exact HO156.out))) (Kd.R_lt (by (with_reducible repeat (first | apply Kd.R_alloc | apply Kd.R_drewN | apply Kd.R_drew)); exact HO159.out))) (Kd.R_lt (by (with_reducible repeat (first | apply Kd.R_alloc | apply Kd.R_drewN | apply Kd.R_drew)); exact HO162.out))) (Kd.R_lt (by (with_reducible repeat (first | apply Kd.R_alloc | apply Kd.R_drewN | apply Kd.R_drew)); exact HO168.out))) (Kd.R_lt (by (with_reducible repeat (first | apply Kd.R_alloc | apply Kd.R_drewN | apply Kd.R_drew)); exact HO171.out))) (Kd.R_lt (by (with_reducible repeat (first | apply Kd.R_alloc | apply Kd.R_drewN | apply Kd.R_drew)); exact HO174.out))) (Kd.R_lt (by (with_reducible repeat (first | apply Kd.R_alloc | apply Kd.R_drewN | apply Kd.R_drew)); exact HO178.out))) (below_size (by repeat (first | (with_reducible first | exact HB.out | apply below_alloc | apply pw_below_drewN | apply below_drew1) | exact HB.out)))); have n8_ := Aside0.mk (below_step (by repeat (first | (with_reducible first | exact HB.out | apply below_alloc | apply pw_below_drewN | apply below_drew1) | exact HB.out)) hb); clear HO156; clear HO159; clear HO162; clear HO168; clear HO171; clear HO174; clear HO178; clear HB; have HO156 := n0_; have HO159 := n1_; have HO162 := n2_; have HO168 := n3_; have HO171 := n4_; have HO174 := n5_; have HO178 := n6_; have HO181 := n7_; have HB := n8_; clear n0_ n1_ n2_ n3_ n4_ n5_ n6_ n7_ n8_; clear hb ho36; obtain ⟨Ao37, co37, eo37⟩ := Kd.R_slice HO178.out; subst eo37; obtain ⟨Ao38, co38, eo38⟩ := Kd.R_slice HO181.out; subst eo38) | (go_at_call 15; (with_reducible refine (lookoutref08_Same.calls k _ _ t176 _ _ y179 true _ ?side1 ?side2 ?side3 ?side4 A7.out).mono ?_); (case side1 => repeat (first | exact (Kd.R_reads' HO178.out).2.2 | (with_reducible refine Kd.C_alloc ?_ _) | (with_reducible refine Kd.C_drewN ?_ _) | (with_reducible refine Kd.C_drew ?_))); (case side2 => exact (Kd.R_reads' HO178.out).2.1); (case side3 => repeat (first | exact (Kd.R_reads' HO181.out).2.2 | (with_reducible refine Kd.C_alloc ?_ _) | (with_reducible refine Kd.C_drewN ?_ _) | (with_reducible refine Kd.C_drew ?_))); (case side4 => exact (Kd.R_reads' HO181.out).2.1); rintro e w' ⟨rfl, ⟨nd, rfl⟩⟩) | (go_at_call 23; (with_reducible refine (postings_Without.calls k (fun k_ => some k_ = (.slice Ao27 y154.length co27 : Value).ownBlock) _ _ y154 (fun k_ => some k_ = (.slice Ao28 y157.length co28 : Value).ownBlock) _ _ y157 t183 _ ?side1 ?side2 A9.out).mono ?_); (case side1 => exact Kd.R_V (Kd.R_tight rfl (HO156.out))); (case side2 => exact Kd.R_V (Kd.R_tight rfl (HO159.out))); rintro e w39 ⟨v184, rfl, ho0, hb⟩; have n0_ := Aside0.mk (Kd.R_elder' (by (with_reducible repeat (first | apply Kd.R_alloc | apply Kd.R_drewN | apply Kd.R_drew)); exact HO156.out) (Kd.R_base ho0) hb); have n1_ := Aside0.mk (Kd.R_elder' (by (with_reducible repeat (first | apply Kd.R_alloc | apply Kd.R_drewN | apply Kd.R_drew)); exact HO159.out) (Kd.R_base ho0) hb); have n2_ := Aside0.mk (Kd.R_elder' (by (with_reducible repeat (first | apply Kd.R_alloc | apply Kd.R_drewN | apply Kd.R_drew)); exact HO162.out) (Kd.R_base ho0) hb); have n3_ := Aside0.mk (Kd.R_elder' (by (with_reducible repeat (first | apply Kd.R_alloc | apply Kd.R_drewN | apply Kd.R_drew)); exact HO168.out) (Kd.R_base ho0) hb); have n4_ := Aside0.mk (Kd.R_elder' (by (with_reducible repeat (first | apply Kd.R_alloc | apply Kd.R_drewN | apply Kd.R_drew)); exact HO171.out) (Kd.R_base ho0) hb); have n5_ := Aside0.mk (Kd.R_elder' (by (with_reducible repeat (first | apply Kd.R_alloc | apply Kd.R_drewN | apply Kd.R_drew)); exact HO174.out) (Kd.R_base ho0) hb); have n6_ := Aside0.mk (Kd.R_elder' (by (with_reducible repeat (first | apply Kd.R_alloc | apply Kd.R_drewN | apply Kd.R_drew)); exact HO178.out) (Kd.R_base ho0) hb); have n7_ := Aside0.mk (Kd.R_elder' (by (with_reducible repeat (first | apply Kd.R_alloc | apply Kd.R_drewN | apply Kd.R_drew)); exact HO181.out) (Kd.R_base ho0) hb); have n8_ := Aside0.mk (Kd.R_lower (Kd.R_new' (Kd.R_new' (Kd.R_new' (Kd.R_new' (Kd.R_new' (Kd.R_new' (Kd.R_new' (Kd.R_new' (Kd.R_mono (ok' := fun k_ => True) ho0 (fun _ hk_ => trivial)) (Kd.R_lt (by (with_reducible repeat (first | apply Kd.R_alloc | apply Kd.R_drewN | apply Kd.R_drew)); exact HO156.out))) (Kd.R_lt (by (with_reducible repeat (first | apply Kd.R_alloc | apply Kd.R_drewN | apply Kd.R_drew)); exact HO159.out))) (Kd.R_lt (by (with_reducible repeat (first | apply Kd.R_alloc | apply Kd.R_drewN | apply Kd.R_drew)); exact HO162.out))) (Kd.R_lt (by (with_reducible repeat (first | apply Kd.R_alloc | apply Kd.R_drewN | apply Kd.R_drew)); exact HO168.out))) (Kd.R_lt (by (with_reducible repeat (first | apply Kd.R_alloc | apply Kd.R_drewN | apply Kd.R_drew)); exact HO171.out))) (Kd.R_lt (by (with_reducible repeat (first | apply Kd.R_alloc | apply Kd.R_drewN | apply Kd.R_drew)); exact HO174.out))) (Kd.R_lt (by (with_reducible repeat (first | apply Kd.R_alloc | apply Kd.R_drewN | apply Kd.R_drew)); exact HO178.out))) (Kd.R_lt (by (with_reducible repeat (first | apply Kd.R_alloc | apply Kd.R_drewN | apply Kd.R_drew)); exact HO181.out))) (below_size (by repeat (first | (with_reducible first | exact HB.out | apply below_alloc | apply pw_below_drewN | apply below_drew1) | exact HB.out)))); have n9_ := Aside0.mk (below_step (by repeat (first | (with_reducible first | exact HB.out | apply below_alloc | apply pw_below_drewN | apply below_drew1) | exact HB.out)) hb); clear HO156; clear HO159; clear HO162; clear HO168; clear HO171; clear HO174; clear HO178; clear HO181; clear HB; have HO156 := n0_; have HO159 := n1_; have HO162 := n2_; have HO168 := n3_; have HO171 := n4_; have HO174 := n5_; have HO178 := n6_; have HO181 := n7_; have HO185 := n8_; have HB := n9_; clear n0_ n1_ n2_ n3_ n4_ n5_ n6_ n7_ n8_ n9_; (try clear hb); (try clear hb2); (try clear hk); (try clear hi); (try clear ho0)) | ((with_reducible refine gate_dst (N := 35) rfl ?_); (try (refine gate_guard (by rfl) ?_; dsimp only)); refine Kd.R_lit (Kd.int .i64) _ 3 ?hg (N := 35) ?hd (xs := ([1, 5] : List Int)) (inner := [.int .i64 1, .int .i64 5]) (ok := fun _ => True) (okp := fun _ => True) ?hr ?hp (fun _ hk => hk) trivial (Below.refl _ _) (Nat.le_refl _) (by simp) ?_; (case hd => rfl); (case hg => rfl); (case hr => first | (go_simp; done) | (go_simp; rfl)); (case hp => exact (Reps.one (show Kd.M (Kd.int .i64) _ _ _ 1 [.int .i64 1] from rfl) (Reps.one (show Kd.M (Kd.int .i64) _ _ _ 5 [.int .i64 5] from rfl) (Reps.none _ _)))); intro v187 w40 ho41 hb hg_ hnew_; clear hg_ hnew_; (first | rw [← Ny186.out] at ho41 | (simp only [Int.reduceToNat] at ho41; rw [← Ny186.out] at ho41)); have n0_ := Aside0.mk (Kd.R_elder' (by (with_reducible repeat (first | apply Kd.R_alloc | apply Kd.R_drewN | apply Kd.R_drew)); exact HO156.out) (Kd.R_base ho41) hb); have n1_ := Aside0.mk (Kd.R_elder' (by (with_reducible repeat (first | apply Kd.R_alloc | apply Kd.R_drewN | apply Kd.R_drew)); exact HO159.out) (Kd.R_base ho41) hb); have n2_ := Aside0.mk (Kd.R_elder' (by (with_reducible repeat (first | apply Kd.R_alloc | apply Kd.R_drewN | apply Kd.R_drew)); exact HO162.out) (Kd.R_base ho41) hb); have n3_ := Aside0.mk (Kd.R_elder' (by (with_reducible repeat (first | apply Kd.R_alloc | apply Kd.R_drewN | apply Kd.R_drew)); exact HO168.out) (Kd.R_base ho41) hb); have n4_ := Aside0.mk (Kd.R_elder' (by (with_reducible repeat (first | apply Kd.R_alloc | apply Kd.R_drewN | apply Kd.R_drew)); exact HO171.out) (Kd.R_base ho41) hb); have n5_ := Aside0.mk (Kd.R_elder' (by (with_reducible repeat (first | apply Kd.R_alloc | apply Kd.R_drewN | apply Kd.R_drew)); exact HO174.out) (Kd.R_base ho41) hb); have n6_ := Aside0.mk (Kd.R_elder' (by (with_reducible repeat (first | apply Kd.R_alloc | apply Kd.R_drewN | apply Kd.R_drew)); exact HO178.out) (Kd.R_base ho41) hb); have n7_ := Aside0.mk (Kd.R_elder' (by (with_reducible repeat (first | apply Kd.R_alloc | apply Kd.R_drewN | apply Kd.R_drew)); exact HO181.out) (Kd.R_base ho41) hb); have n8_ := Aside0.mk (Kd.R_elder' (by (with_reducible repeat (first | apply Kd.R_alloc | apply Kd.R_drewN | apply Kd.R_drew)); exact HO185.out) (Kd.R_base ho41) hb); have n9_ := Aside0.mk (Kd.R_lower (Kd.R_new' (Kd.R_new' (Kd.R_new' (Kd.R_new' (Kd.R_new' (Kd.R_new' (Kd.R_new' (Kd.R_new' (Kd.R_new' ho41 (Kd.R_lt (by (with_reducible repeat (first | apply Kd.R_alloc | apply Kd.R_drewN | apply Kd.R_drew)); exact HO156.out))) (Kd.R_lt (by (with_reducible repeat (first | apply Kd.R_alloc | apply Kd.R_drewN | apply Kd.R_drew)); exact HO159.out))) (Kd.R_lt (by (with_reducible repeat (first | apply Kd.R_alloc | apply Kd.R_drewN | apply Kd.R_drew)); exact HO162.out))) (Kd.R_lt (by (with_reducible repeat (first | apply Kd.R_alloc | apply Kd.R_drewN | apply Kd.R_drew)); exact HO168.out))) (Kd.R_lt (by (with_reducible repeat (first | apply Kd.R_alloc | apply Kd.R_drewN | apply Kd.R_drew)); exact HO171.out))) (Kd.R_lt (by (with_reducible repeat (first | apply Kd.R_alloc | apply Kd.R_drewN | apply Kd.R_drew)); exact HO174.out))) (Kd.R_lt (by (with_reducible repeat (first | apply Kd.R_alloc | apply Kd.R_drewN | apply Kd.R_drew)); exact HO178.out))) (Kd.R_lt (by (with_reducible repeat (first | apply Kd.R_alloc | apply Kd.R_drewN | apply Kd.R_drew)); exact HO181.out))) (Kd.R_lt (by (with_reducible repeat (first | apply Kd.R_alloc | apply Kd.R_drewN | apply Kd.R_drew)); exact HO185.out))) (below_size (by repeat (first | (with_reducible first | exact HB.out | apply below_alloc | apply pw_below_drewN | apply below_drew1) | exact HB.out)))); have n10_ := Aside0.mk (below_step (by repeat (first | (with_reducible first | exact HB.out | apply below_alloc | apply pw_below_drewN | apply below_drew1) | exact HB.out)) hb); clear HO156; clear HO159; clear HO162; clear HO168; clear HO171; clear HO174; clear HO178; clear HO181; clear HO185; clear HB; have HO156 := n0_; have HO159 := n1_; have HO162 := n2_; have HO168 := n3_; have HO171 := n4_; have HO174 := n5_; have HO178 := n6_; have HO181 := n7_; have HO185 := n8_; have HO188 := n9_; have HB := n10_; clear n0_ n1_ n2_ n3_ n4_ n5_ n6_ n7_ n8_ n9_ n10_; clear hb ho41; obtain ⟨Ao42, co42, eo42⟩ := Kd.R_slice HO185.out; subst eo42; obtain ⟨Ao43, co43, eo43⟩ := Kd.R_slice HO188.out; subst eo43) | (go_at_call 15; (with_reducible refine (lookoutref08_Same.calls k _ _ t183 _ _ y186 true _ ?side1 ?side2 ?side3 ?side4 A10.out).mono ?_); (case side1 => repeat (first | exact (Kd.R_reads' HO185.out).2.2 | (with_reducible refine Kd.C_alloc ?_ _) | (with_reducible refine Kd.C_drewN ?_ _) | (with_reducible refine Kd.C_drew ?_))); (case side2 => exact (Kd.R_reads' HO185.out).2.1); (case side3 => repeat (first | exact (Kd.R_reads' HO188.out).2.2 | (with_reducible refine Kd.C_alloc ?_ _) | (with_reducible refine Kd.C_drewN ?_ _) | (with_reducible refine Kd.C_drew ?_))); (case side4 => exact (Kd.R_reads' HO188.out).2.1); rintro e w' ⟨rfl, ⟨nd, rfl⟩⟩) | (go_at_call 25; (with_reducible refine (postings_Seek.calls k (fun k_ => some k_ = (.slice Ao27 y154.length co27 : Value).ownBlock) _ _ y154 4 t190 _ ?side1 A12.out).mono ?_); (case side1 => exact Kd.R_V (Kd.R_tight rfl (HO156.out))); rintro e w44 ⟨rfl, hb⟩; have n0_ := Aside0.mk (Kd.R_below (by (with_reducible repeat (first | apply Kd.R_alloc | apply Kd.R_drewN | apply Kd.R_drew)); exact HO156.out) hb); have n1_ := Aside0.mk (Kd.R_below (by (with_reducible repeat (first | apply Kd.R_alloc | apply Kd.R_drewN | apply Kd.R_drew)); exact HO159.out) hb); have n2_ := Aside0.mk (Kd.R_below (by (with_reducible repeat (first | apply Kd.R_alloc | apply Kd.R_drewN | apply Kd.R_drew)); exact HO162.out) hb); have n3_ := Aside0.mk (Kd.R_below (by (with_reducible repeat (first | apply Kd.R_alloc | apply Kd.R_drewN | apply Kd.R_drew)); exact HO168.out) hb); have n4_ := Aside0.mk (Kd.R_below (by (with_reducible repeat (first | apply Kd.R_alloc | apply Kd.R_drewN | apply Kd.R_drew)); exact HO171.out) hb); have n5_ := Aside0.mk (Kd.R_below (by (with_reducible repeat (first | apply Kd.R_alloc | apply Kd.R_drewN | apply Kd.R_drew)); exact HO174.out) hb); have n6_ := Aside0.mk (Kd.R_below (by (with_reducible repeat (first | apply Kd.R_alloc | apply Kd.R_drewN | apply Kd.R_drew)); exact HO178.out) hb); have n7_ := Aside0.mk (Kd.R_below (by (with_reducible repeat (first | apply Kd.R_alloc | apply Kd.R_drewN | apply Kd.R_drew)); exact HO181.out) hb); have n8_ := Aside0.mk (Kd.R_below (by (with_reducible repeat (first | apply Kd.R_alloc | apply Kd.R_drewN | apply Kd.R_drew)); exact HO185.out) hb); have n9_ := Aside0.mk (Kd.R_below (by (with_reducible repeat (first | apply Kd.R_alloc | apply Kd.R_drewN | apply Kd.R_drew)); exact HO188.out) hb); have n10_ := Aside0.mk (below_step (by repeat (first | (with_reducible first | exact HB.out | apply below_alloc | apply pw_below_drewN | apply below_drew1) | exact HB.out)) hb); clear HO156; clear HO159; clear HO162; clear HO168; clear HO171; clear HO174; clear HO178; clear HO181; clear HO185; clear HO188; clear HB; have HO156 := n0_; have HO159 := n1_; have HO162 := n2_; have HO168 := n3_; have HO171 := n4_; have HO174 := n5_; have HO178 := n6_; have HO181 := n7_; have HO185 := n8_; have HO188 := n9_; have HB := n10_; clear n0_ n1_ n2_ n3_ n4_ n5_ n6_ n7_ n8_ n9_ n10_; (try clear hb); (try clear hb2); (try clear hk); (try clear hi)) | ((with_reducible refine gate_dst (N := 57) rfl ?_); (try (refine gate_guard (by rfl) ?_; dsimp only)); refine Kd.R_lit (Kd.int .i64) _ 3 ?hg (N := 57) ?hd (xs := ([1, 3, 300] : List Int)) (inner := [.int .i64 1, .int .i64 3, .int .i64 300]) (ok := fun _ => True) (okp := fun _ => True) ?hr ?hp (fun _ hk => hk) trivial (Below.refl _ _) (Nat.le_refl _) (by simp) ?_; (case hd => rfl); (case hg => rfl); (case hr => first | (go_simp; done) | (go_simp; rfl)); (case hp => exact (Reps.one (show Kd.M (Kd.int .i64) _ _ _ 1 [.int .i64 1] from rfl) (Reps.one (show Kd.M (Kd.int .i64) _ _ _ 3 [.int .i64 3] from rfl) (Reps.one (show Kd.M (Kd.int .i64) _ _ _ 300 [.int .i64 300] from rfl) (Reps.none _ _))))); intro v192 w45 ho46 hb hg_ hnew_; clear hg_ hnew_; (first | rw [← Ny191.out] at ho46 | (simp only [Int.reduceToNat] at ho46; rw [← Ny191.out] at ho46)); have n0_ := Aside0.mk (Kd.R_elder' (by (with_reducible repeat (first | apply Kd.R_alloc | apply Kd.R_drewN | apply Kd.R_drew)); exact HO156.out) (Kd.R_base ho46) hb); have n1_ := Aside0.mk (Kd.R_elder' (by (with_reducible repeat (first | apply Kd.R_alloc | apply Kd.R_drewN | apply Kd.R_drew)); exact HO159.out) (Kd.R_base ho46) hb); have n2_ := Aside0.mk (Kd.R_elder' (by (with_reducible repeat (first | apply Kd.R_alloc | apply Kd.R_drewN | apply Kd.R_drew)); exact HO162.out) (Kd.R_base ho46) hb); have n3_ := Aside0.mk (Kd.R_elder' (by (with_reducible repeat (first | apply Kd.R_alloc | apply Kd.R_drewN | apply Kd.R_drew)); exact HO168.out) (Kd.R_base ho46) hb); have n4_ := Aside0.mk (Kd.R_elder' (by (with_reducible repeat (first | apply Kd.R_alloc | apply Kd.R_drewN | apply Kd.R_drew)); exact HO171.out) (Kd.R_base ho46) hb); have n5_ := Aside0.mk (Kd.R_elder' (by (with_reducible repeat (first | apply Kd.R_alloc | apply Kd.R_drewN | apply Kd.R_drew)); exact HO174.out) (Kd.R_base ho46) hb); have n6_ := Aside0.mk (Kd.R_elder' (by (with_reducible repeat (first | apply Kd.R_alloc | apply Kd.R_drewN | apply Kd.R_drew)); exact HO178.out) (Kd.R_base ho46) hb); have n7_ := Aside0.mk (Kd.R_elder' (by (with_reducible repeat (first | apply Kd.R_alloc | apply Kd.R_drewN | apply Kd.R_drew)); exact HO181.out) (Kd.R_base ho46) hb); have n8_ := Aside0.mk (Kd.R_elder' (by (with_reducible repeat (first | apply Kd.R_alloc | apply Kd.R_drewN | apply Kd.R_drew)); exact HO185.out) (Kd.R_base ho46) hb); have n9_ := Aside0.mk (Kd.R_elder' (by (with_reducible repeat (first | apply Kd.R_alloc | apply Kd.R_drewN | apply Kd.R_drew)); exact HO188.out) (Kd.R_base ho46) hb); have n10_ := Aside0.mk (Kd.R_lower (Kd.R_new' (Kd.R_new' (Kd.R_new' (Kd.R_new' (Kd.R_new' (Kd.R_new' (Kd.R_new' (Kd.R_new' (Kd.R_new' (Kd.R_new' ho46 (Kd.R_lt (by (with_reducible repeat (first | apply Kd.R_alloc | apply Kd.R_drewN | apply Kd.R_drew)); exact HO156.out))) (Kd.R_lt (by (with_reducible repeat (first | apply Kd.R_alloc | apply Kd.R_drewN | apply Kd.R_drew)); exact HO159.out))) (Kd.R_lt (by (with_reducible repeat (first | apply Kd.R_alloc | apply Kd.R_drewN | apply Kd.R_drew)); exact HO162.out))) (Kd.R_lt (by (with_reducible repeat (first | apply Kd.R_alloc | apply Kd.R_drewN | apply Kd.R_drew)); exact HO168.out))) (Kd.R_lt (by (with_reducible repeat (first | apply Kd.R_alloc | apply Kd.R_drewN | apply Kd.R_drew)); exact HO171.out))) (Kd.R_lt (by (with_reducible repeat (first | apply Kd.R_alloc | apply Kd.R_drewN | apply Kd.R_drew)); exact HO174.out))) (Kd.R_lt (by (with_reducible repeat (first | apply Kd.R_alloc | apply Kd.R_drewN | apply Kd.R_drew)); exact HO178.out))) (Kd.R_lt (by (with_reducible repeat (first | apply Kd.R_alloc | apply Kd.R_drewN | apply Kd.R_drew)); exact HO181.out))) (Kd.R_lt (by (with_reducible repeat (first | apply Kd.R_alloc | apply Kd.R_drewN | apply Kd.R_drew)); exact HO185.out))) (Kd.R_lt (by (with_reducible repeat (first | apply Kd.R_alloc | apply Kd.R_drewN | apply Kd.R_drew)); exact HO188.out))) (below_size (by repeat (first | (with_reducible first | exact HB.out | apply below_alloc | apply pw_below_drewN | apply below_drew1) | exact HB.out)))); have n11_ := Aside0.mk (below_step (by repeat (first | (with_reducible first | exact HB.out | apply below_alloc | apply pw_below_drewN | apply below_drew1) | exact HB.out)) hb); clear HO156; clear HO159; clear HO162; clear HO168; clear HO171; clear HO174; clear HO178; clear HO181; clear HO185; clear HO188; clear HB; have HO156 := n0_; have HO159 := n1_; have HO162 := n2_; have HO168 := n3_; have HO171 := n4_; have HO174 := n5_; have HO178 := n6_; have HO181 := n7_; have HO185 := n8_; have HO188 := n9_; have HO193 := n10_; have HB := n11_; clear n0_ n1_ n2_ n3_ n4_ n5_ n6_ n7_ n8_ n9_ n10_ n11_; clear hb ho46; obtain ⟨Ao47, co47, eo47⟩ := Kd.R_slice HO168.out; subst eo47; obtain ⟨Ao48, co48, eo48⟩ := Kd.R_slice HO193.out; subst eo48) | (go_at_call 15; (with_reducible refine (lookoutref08_Same.calls k _ _ t165 _ _ y191 t194 _ ?side1 ?side2 ?side3 ?side4 A17.out).mono ?_); (case side1 => repeat (first | exact (Kd.R_reads' HO168.out).2.2 | (with_reducible refine Kd.C_alloc ?_ _) | (with_reducible refine Kd.C_drewN ?_ _) | (with_reducible refine Kd.C_drew ?_))); (case side2 => exact (Kd.R_reads' HO168.out).2.1); (case side3 => repeat (first | exact (Kd.R_reads' HO193.out).2.2 | (with_reducible refine Kd.C_alloc ?_ _) | (with_reducible refine Kd.C_drewN ?_ _) | (with_reducible refine Kd.C_drew ?_))); (case side4 => exact (Kd.R_reads' HO193.out).2.1); rintro e w' ⟨rfl, ⟨nd, rfl⟩⟩))
                go_ret
                exact ⟨by first | rfl | (simp [errW_none, errW_some] <;> rfl) | (simp [*, errW_none, errW_some] <;> rfl), by repeat (first | (with_reducible first | exact HB.out | apply below_alloc | apply pw_below_drewN | apply below_drew1) | exact HB.out)⟩
              · rw [if_neg c16] at H
                exact absurd H (by simp)
            · rw [if_neg c15] at H
              exact absurd H (by simp)
          · rw [if_neg c14] at H
            exact absurd H (by simp)
        · rw [if_neg c13] at H
          exact absurd H (by simp)
      · replace c11 := Bool.eq_false_iff.mpr c11
        subst c11
        have H1 : (none) = some r := by rw [if_neg (show ¬ (false = true) by decide)] at H; exact H
        clear H
        have H := H1
        clear H1
        exact absurd H (by simp)
    · replace c8 := Bool.eq_false_iff.mpr c8
      subst c8
      have H1 : (none) = some r := by rw [if_neg (show ¬ (false = true) by decide)] at H; exact H
      clear H
      have H := H1
      clear H1
      exact absurd H (by simp)
  · replace c5 := Bool.eq_false_iff.mpr c5
    subst c5
    have H1 : (none) = some r := by rw [if_neg (show ¬ (false = true) by decide)] at H; exact H
    clear H
    have H := H1
    clear H1
    exact absurd H (by simp)

end Go.Proofs.Ytdmdhpnlalekfaa.P
end
section
namespace Go.Proofs.Ytdmdhpnlalekfaa.P
open Go.RowKit Go.Proofs.YtdmdhpnlalekfaaW.PrintWords Go.Proofs.YtdmdhpnlalekfaaW.PrintLast Go.Proofs.YtdmdhpnlalekfaaW.PrintMore Go.Proofs.Ytdmdhpnlalekfaa.Hand Go.Proofs.Ytdmdhpnlalekfaa.A
attribute [local go_sem] max2_int min2_int max_two min_two max_three min_three max_four min_four   -- for this text's walks alone
set_option linter.unusedVariables false
set_option linter.unusedSimpArgs false

-- NOT PRINTED: function 56 (slices_IndexFunc_int_int)

end Go.Proofs.Ytdmdhpnlalekfaa.P
end
section
namespace Go.Proofs.Ytdmdhpnlalekfaa.P
open Go.RowKit Go.Proofs.YtdmdhpnlalekfaaW.PrintWords Go.Proofs.YtdmdhpnlalekfaaW.PrintLast Go.Proofs.YtdmdhpnlalekfaaW.PrintMore Go.Proofs.Ytdmdhpnlalekfaa.Hand Go.Proofs.Ytdmdhpnlalekfaa.A
attribute [local go_sem] max2_int min2_int max_two min_two max_three min_three max_four min_four   -- for this text's walks alone
set_option linter.unusedVariables false
set_option linter.unusedSimpArgs false

-- NOT PRINTED: function 33 (slices_ContainsFunc_int_int)

end Go.Proofs.Ytdmdhpnlalekfaa.P
end
section
namespace Go.Proofs.Ytdmdhpnlalekfaa.P
open Go.RowKit Go.Proofs.YtdmdhpnlalekfaaW.PrintWords Go.Proofs.YtdmdhpnlalekfaaW.PrintLast Go.Proofs.YtdmdhpnlalekfaaW.PrintMore Go.Proofs.Ytdmdhpnlalekfaa.Hand Go.Proofs.Ytdmdhpnlalekfaa.A
attribute [local go_sem] max2_int min2_int max_two min_two max_three min_three max_four min_four   -- for this text's walks alone
set_option linter.unusedVariables false
set_option linter.unusedSimpArgs false

/-! ### lookoutlaw08_great: function 16 -/
def lookoutlaw08_great.f (l0 : List (List Int)) : Option (Bool) := if (l0.length : Int) > 8 then (some true) else ((contains_great.f l0).bind fun t195 => (some t195))
set_option maxHeartbeats 8000000 in
set_option maxRecDepth 100000 in
theorem lookoutlaw08_great.calls (A0 : Option Addr) (c0 : Nat) (l0 : List (List Int)) (r : Bool) (w : World) (hr0 : Kd.C (Kd.slice 3 (Kd.int .i64)) w A0 l0.length l0) (hc0 : l0.length ≤ c0) (h : lookoutlaw08_great.f l0 = some r) :
    Calls Try.prog 16 #[.slice A0 l0.length c0] w fun e w' => e = .returned (.bool r) ∧ Drawn0 w w' := by
  have HR0 := Aside0.mk hr0
  have HC0 := Aside0.mk hc0
  clear hr0 hc0
  have H : (if (l0.length : Int) > 8 then (some true) else ((contains_great.f l0).bind fun t195 => (some t195))) = some r := h
  clear h
  by_cases c2 : (l0.length : Int) > 8
  · rw [if_pos c2] at H
    have c2b0 : decide (8 < (l0.length : Int)) = true := decide_eq_true c2
    have c2b1 : decide (8 < l0.length) = true := decide_eq_true (by omega)
    clear c2
    obtain rfl := Option.some.inj H
    go_enter Try.func16, Try.ntmps16
    go_wp2
    go_ret
    exact ⟨by first | rfl | (simp; done) | (simp [*]; done), by repeat (first | exact Drawn0.refl _ | apply Drawn0.step)⟩
  · rw [if_neg c2] at H
    have c2b0 : decide (8 < (l0.length : Int)) = false := decide_eq_false c2
    have c2b1 : decide (8 < l0.length) = false := decide_eq_false (by omega)
    clear c2
    replace H := Option.bind_eq_some_iff.mp H
    obtain ⟨t195, A30, H⟩ := H
    replace H : (some t195) = some r := H
    have A3 := Aside0.mk A30
    clear A30
    obtain rfl := Option.some.inj H
    go_enter Try.func16, Try.ntmps16
    go_wp2_with (first | (go_at_call 33; (with_reducible refine (contains_great.calls _ _ l0  t195 _ ?side1 ?side2 A3.out).mono ?_); (case side1 => repeat (first | exact HR0.out | (with_reducible refine Kd.C_alloc ?_ _) | (with_reducible refine Kd.C_drewN ?_ _) | (with_reducible refine Kd.C_drew ?_))); (case side2 => exact HC0.out); rintro e w' ⟨rfl, ⟨nd, rfl⟩⟩))
    go_ret
    exact ⟨by first | rfl | (simp; done) | (simp [*]; done), by repeat (first | exact Drawn0.refl _ | apply Drawn0.step)⟩

end Go.Proofs.Ytdmdhpnlalekfaa.P
end
section
namespace Go.Proofs.Ytdmdhpnlalekfaa.P
open Go.RowKit Go.Proofs.YtdmdhpnlalekfaaW.PrintWords Go.Proofs.YtdmdhpnlalekfaaW.PrintLast Go.Proofs.YtdmdhpnlalekfaaW.PrintMore Go.Proofs.Ytdmdhpnlalekfaa.Hand Go.Proofs.Ytdmdhpnlalekfaa.A
attribute [local go_sem] max2_int min2_int max_two min_two max_three min_three max_four min_four   -- for this text's walks alone
set_option linter.unusedVariables false
set_option linter.unusedSimpArgs false

-- NOT PRINTED: function 53 (slices_Chunk_int_int)

end Go.Proofs.Ytdmdhpnlalekfaa.P
end
section
namespace Go.Proofs.Ytdmdhpnlalekfaa.P
open Go.RowKit Go.Proofs.YtdmdhpnlalekfaaW.PrintWords Go.Proofs.YtdmdhpnlalekfaaW.PrintLast Go.Proofs.YtdmdhpnlalekfaaW.PrintMore Go.Proofs.Ytdmdhpnlalekfaa.Hand Go.Proofs.Ytdmdhpnlalekfaa.A
attribute [local go_sem] max2_int min2_int max_two min_two max_three min_three max_four min_four   -- for this text's walks alone
set_option linter.unusedVariables false
set_option linter.unusedSimpArgs false

-- NOT PRINTED: function 54 (slices_Clone_int_int_54)

end Go.Proofs.Ytdmdhpnlalekfaa.P
end
