/- Printed by a program of this session: functions of the law's Go code as Lean functions, and that the Go code computes them. No condition beyond those in the statements. -/
import Derived.Test.YtdmdhpnlalekfaaPx0
import Derived.Test.YtdmdhpnlalekfaaPx1
import Derived.Test.YtdmdhpnlalekfaaPx2
namespace Go.Proofs.Ytdmdhpnlalekfaa.P
open Go.RowKit Go.Proofs.YtdmdhpnlalekfaaW.PrintWords Go.Proofs.YtdmdhpnlalekfaaW.PrintLast Go.Proofs.YtdmdhpnlalekfaaW.PrintMore Go.Proofs.Ytdmdhpnlalekfaa.Hand Go.Proofs.Ytdmdhpnlalekfaa.A
attribute [local go_sem] max2_int min2_int max_two min_two max_three min_three max_four min_four   -- for this text's walks alone
set_option linter.unusedVariables false
set_option linter.unusedSimpArgs false

/-! ### lookoutref08_Decode: function 14 -/
mutual
def lookoutref08_Decode.l0 : Nat → ByteArray → Int → Int → List Int → Int → Option (List Int × Int)
  | 0, _, _, _, _, _ => none
  | k + 1, x0, x4, x6, x7, x8 => if x6 = 0 then (lookoutref08_Decode.j1 k x0 x4 x6 x7 x8 (decide ((x7.length : Int) < x4))) else (lookoutref08_Decode.j1 k x0 x4 x6 x7 x8 false)
def lookoutref08_Decode.j1 : Nat → ByteArray → Int → Int → List Int → Int → Bool → Option (List Int × Int)
  | 0, _, _, _, _, _, _ => none
  | k + 1, x0, x4, x6, x7, x8, x27 => if x27 = true then ((lookoutref01_Read.f k x0).bind fun bt204 => (if 0 ≤ bt204.2.1 then (if bt204.2.1 ≤ (x0.size : Int) then (if bt204.2.2 = 0 then (if bt204.1 > (wrap64 ((wrap64 (1152921504606846976 - x8)) - 1)) then (if x7.length < 17592186044416 then (lookoutref08_Decode.l0 k (x0.extract (bt204.2.1 : Int).toNat x0.size) x4 12 (x7 ++ [wrap64 ((wrap64 (x8 + 1)) + bt204.1)]) (wrap64 ((wrap64 (x8 + 1)) + bt204.1))) else (none)) else (if x7.length < 17592186044416 then (lookoutref08_Decode.l0 k (x0.extract (bt204.2.1 : Int).toNat x0.size) x4 bt204.2.2 (x7 ++ [wrap64 ((wrap64 (x8 + 1)) + bt204.1)]) (wrap64 ((wrap64 (x8 + 1)) + bt204.1))) else (none))) else (if x7.length < 17592186044416 then (lookoutref08_Decode.l0 k (x0.extract (bt204.2.1 : Int).toNat x0.size) x4 bt204.2.2 (x7 ++ [wrap64 ((wrap64 (x8 + 1)) + bt204.1)]) (wrap64 ((wrap64 (x8 + 1)) + bt204.1))) else (none))) else (none)) else (none))) else (if x6 = 0 then (if x0.toList = ([] : List UInt8) then (some (x7, 0)) else (some ((([] : List Int)), 12))) else (some ((([] : List Int)), 12)))
end
def lookoutref08_Decode.f (k : Nat) (a0 : ByteArray) : Option (List Int × Int) := (lookoutref01_Read.f k a0).bind fun bt198 => (if 0 ≤ bt198.2.1 then (if bt198.2.1 ≤ (a0.size : Int) then (lookoutref08_Decode.l0 k (a0.extract (bt198.2.1 : Int).toNat a0.size) bt198.1 bt198.2.2 (([] : List Int)) (-1)) else (none)) else (none))
theorem lookoutref08_Decode.mono_l : ∀ k, (∀ y0 y1 y2 y3 y4, LeO (lookoutref08_Decode.l0 k y0 y1 y2 y3 y4) (lookoutref08_Decode.l0 (k + 1) y0 y1 y2 y3 y4)) ∧ (∀ y0 y1 y2 y3 y4 y5, LeO (lookoutref08_Decode.j1 k y0 y1 y2 y3 y4 y5) (lookoutref08_Decode.j1 (k + 1) y0 y1 y2 y3 y4 y5))
  | 0 => ⟨fun _ _ _ _ _ r h => by simp [lookoutref08_Decode.l0] at h, fun _ _ _ _ _ _ r h => by simp [lookoutref08_Decode.j1] at h⟩
  | k + 1 => by
    obtain ⟨ih0, ih1⟩ := lookoutref08_Decode.mono_l k
    refine ⟨?_, ?_⟩
    · intro y0 y1 y2 y3 y4
      unfold lookoutref08_Decode.l0
      repeat' first
      | (with_reducible exact ih0 _ _ _ _ _)
      | (with_reducible exact ih1 _ _ _ _ _ _)
      | (with_reducible exact lookoutref01_Read.mono _ _)
      | (with_reducible exact LeO.refl _)
      | (with_reducible exact LeO.none _)
      | (with_reducible refine LeO.ite ?_ ?_)
      | (with_reducible refine LeO.bind ?_ (fun _ => ?_))
      | exact ih0 _ _ _ _ _
      | exact ih1 _ _ _ _ _ _
      | exact lookoutref01_Read.mono _ _
      | exact LeO.none _
      | refine LeO.ite ?_ ?_
      | refine LeO.bind ?_ (fun _ => ?_)
    · intro y0 y1 y2 y3 y4 y5
      unfold lookoutref08_Decode.j1
      repeat' first
      | (with_reducible exact ih0 _ _ _ _ _)
      | (with_reducible exact ih1 _ _ _ _ _ _)
      | (with_reducible exact lookoutref01_Read.mono _ _)
      | (with_reducible exact LeO.refl _)
      | (with_reducible exact LeO.none _)
      | (with_reducible refine LeO.ite ?_ ?_)
      | (with_reducible refine LeO.bind ?_ (fun _ => ?_))
      | exact ih0 _ _ _ _ _
      | exact ih1 _ _ _ _ _ _
      | exact lookoutref01_Read.mono _ _
      | exact LeO.none _
      | refine LeO.ite ?_ ?_
      | refine LeO.bind ?_ (fun _ => ?_)
theorem lookoutref08_Decode.mono : ∀ a0 k, LeO (lookoutref08_Decode.f k a0) (lookoutref08_Decode.f (k + 1) a0) := by
  intro a0 k
  obtain ⟨ih0, ih1⟩ := lookoutref08_Decode.mono_l k
  unfold lookoutref08_Decode.f
  repeat' first
      | (with_reducible exact ih0 _ _ _ _ _)
      | (with_reducible exact ih1 _ _ _ _ _ _)
      | (with_reducible exact lookoutref01_Read.mono _ _)
      | (with_reducible exact LeO.refl _)
      | (with_reducible exact LeO.none _)
      | (with_reducible refine LeO.ite ?_ ?_)
      | (with_reducible refine LeO.bind ?_ (fun _ => ?_))
      | exact ih0 _ _ _ _ _
      | exact ih1 _ _ _ _ _ _
      | exact lookoutref01_Read.mono _ _
      | exact LeO.none _
      | refine LeO.ite ?_ ?_
      | refine LeO.bind ?_ (fun _ => ?_)
set_option maxHeartbeats 8000000 in
set_option maxRecDepth 100000 in
theorem lookoutref08_Decode.calls (k : Nat) (a0 : ByteArray) (r1 : List Int) (r2 : Int) (w : World) (h : lookoutref08_Decode.f k a0 = some (r1, r2)) :
    Calls Try.prog 14 #[.string a0] w fun e w' => ∃ v0_ : Value, e = .returned (.tuple #[v0_, .int .i64 r2]) ∧ Kd.R (Kd.int .i64) 3 w' w.heap.size (fun _ => True) v0_ r1 ∧ Below w.heap.size w w' := by
  have HB := Aside0.mk (Below.refl w.heap.size w)
  have H : ((lookoutref01_Read.f k a0).bind fun bt198 => (if 0 ≤ bt198.2.1 then (if bt198.2.1 ≤ (a0.size : Int) then (lookoutref08_Decode.l0 k (a0.extract (bt198.2.1 : Int).toNat a0.size) bt198.1 bt198.2.2 (([] : List Int)) (-1)) else (none)) else (none))) = some (r1, r2) := h
  clear h
  replace H := Option.bind_eq_some_iff.mp H
  obtain ⟨⟨t198, t199, t200⟩, A20, H⟩ := H
  replace H : (if 0 ≤ t199 then (if t199 ≤ (a0.size : Int) then (lookoutref08_Decode.l0 k (a0.extract (t199 : Int).toNat a0.size) t198 t200 (([] : List Int)) (-1)) else (none)) else (none)) = some (r1, r2) := H
  have A2 := Aside0.mk A20
  clear A20
  by_cases c3 : 0 ≤ t199
  · rw [if_pos c3] at H
    have c3b0 := eq_true c3
    have c3b1 : decide (0 ≤ t199) = true := decide_eq_true c3
    clear c3
    by_cases c4 : t199 ≤ (a0.size : Int)
    · rw [if_pos c4] at H
      have c4b0 := eq_true c4
      have c4b1 : decide (t199 ≤ (a0.size : Int)) = true := decide_eq_true c4
      clear c4
      obtain ⟨y201, hy201⟩ : ∃ y_ : List Int, y_ = (([] : List Int)) := ⟨_, rfl⟩
      replace H : (lookoutref08_Decode.l0 k (a0.extract (t199 : Int).toNat a0.size) t198 t200 y201 (-1)) = some (r1, r2) := by first | (rw [hy201]; with_reducible exact H) | (have H2_ := (Option.bind_some _ _).symm.trans H; rw [hy201]; with_reducible exact H2_) | (have H2_ := (Option.bind_some _ _).symm.trans H; with_reducible exact H2_) | with_reducible exact H | (rw [hy201]; exact H) | exact H
      have Ny201 := Aside0.mk hy201
      clear hy201
      have H' := Aside0.mk H
      clear H
      go_enter Try.func14, Try.ntmps14
      go_wp2_with (first | ((with_reducible refine gate_callee (f := 38) rfl ?_); refine goesL_ (some 12) rfl rfl Try.func38 (by kernel_rfl) rfl #[.string a0] rfl (by (try simp only [List.map_toArray, List.map_cons, List.map_nil]); first | done | rfl | (simp only [List.length_drop, List.length_take]; rfl)) ?_; (with_reducible refine (lookoutref01_Read.calls k a0 t198 t199 t200 _ A2.out).mono ?_); rintro e w' ⟨rfl, ⟨nd, rfl⟩⟩; refine ⟨_, rfl, ?_⟩) | ((with_reducible refine gate_dst (N := 19) rfl ?_); (try (refine gate_guard (by rfl) ?_; dsimp only)); refine Kd.R_lit (Kd.int .i64) _ 3 ?hg (N := 19) ?hd (xs := ([] : List Int)) (inner := []) (ok := fun _ => True) (okp := fun _ => True) ?hr ?hp (fun _ hk => hk) trivial (Below.refl _ _) (Nat.le_refl _) (by simp) ?_; (case hd => rfl); (case hg => rfl); (case hr => first | (go_simp; done) | (go_simp; rfl)); (case hp => exact (Reps.none _ _)); intro v202 w5 ho6 hb hg_ hnew_; clear hg_ hnew_; (first | rw [← Ny201.out] at ho6 | (simp only [Int.reduceToNat] at ho6; rw [← Ny201.out] at ho6)); have n0_ := Aside0.mk (Kd.R_lower ho6 (below_size (by repeat (first | (with_reducible first | exact HB.out | apply below_alloc | apply pw_below_drewN | apply below_drew1) | exact HB.out)))); have n1_ := Aside0.mk (below_step (by repeat (first | (with_reducible first | exact HB.out | apply below_alloc | apply pw_below_drewN | apply below_drew1) | exact HB.out)) hb); clear HB; have HO203 := n0_; have HB := n1_; clear n0_ n1_; clear hb ho6))
      go_loopg [0, 6, 7, 8] k (fun kq v0 v6 v7 v8 w' => ∃ (x0_1 : ByteArray) (x6_1 : Int) (x7_1 : List Int) (x8_1 : Int), v0 = .string x0_1 ∧ v6 = .int .i64 x6_1 ∧ v8 = .int .i64 x8_1 ∧ Aside0 (lookoutref08_Decode.l0 kq x0_1 t198 x6_1 x7_1 x8_1 = some (r1, r2)) ∧ Aside0 (kq ≤ k) ∧ Aside0 (Kd.R (Kd.int .i64) 3 w' w.heap.size (fun _ => True) v7 x7_1) ∧ Aside0 (Below w.heap.size w w'))
      case atStart => exact ⟨(a0.extract (t199 : Int).toNat a0.size), (t200), (y201), ((-1)), (by first | rfl | (simp; done) | (simp [*]; done)), (by first | rfl | (simp; done) | (simp [*]; done)), (by first | rfl | (simp; done) | (simp [*]; done)), H', ⟨Nat.le_refl _⟩, ⟨by (with_reducible repeat (first | apply Kd.R_alloc | apply Kd.R_drewN | apply Kd.R_drew)); exact HO203.out⟩, ⟨by repeat (first | (with_reducible first | exact HB.out | apply below_alloc | apply pw_below_drewN | apply below_drew1) | exact HB.out)⟩⟩
      case round =>
        clear H'
        try clear c1
        try clear p2
        try clear c3
        try clear c3b0
        try clear c3b1
        try clear c4
        try clear c4b0
        try clear c4b1
        obtain ⟨x0_1, x6_1, x7_1, x8_1, rfl, rfl, rfl, HA, HK1, HO_7, HB⟩ := hrel
        cases gk with
        | zero => exact absurd HA.out (by simp [lookoutref08_Decode.l0])
        | succ k1 =>
          have H := HA.out
          clear HA
          simp only [lookoutref08_Decode.l0] at H
          have HC7 := Aside0.mk H
          clear H
          go_upto_region 5 with (fail)
          go_cut [27] (fun v27 wc => ∃ (kq : Nat) (x27_6 : Bool), v27 = .bool x27_6 ∧ Aside0 (lookoutref08_Decode.j1 kq x0_1 t198 x6_1 x7_1 x8_1 x27_6 = some (r1, r2)) ∧ Aside0 (kq ≤ k1) ∧ Aside0 (Kd.R (Kd.int .i64) 3 wc w.heap.size (fun _ => True) u7 x7_1) ∧ Aside0 (Below w.heap.size w wc))
          case first =>
            have H := HC7.out
            clear HC7
            by_cases c8 : x6_1 = 0
            · rw [if_pos c8] at H
              have c8b0 : (x6_1 == 0) = true := beq_iff_eq.mpr c8
              have c8b1 : (x6_1 != 0) = false := bne_eq_false_iff_eq.mpr c8
              clear c8
              (first | rw [c8b0] | (simp only [i64_w, i32_w]; rw [c8b0]) | skip)
              have H' := Aside0.mk H
              clear H
              obtain ⟨Ao9, co9, eo9⟩ := Kd.R_slice HO_7.out
              subst eo9
              go_wp2
              go_meet
              case rel => exact ⟨_, (decide ((x7_1.length : Int) < t198)), (by first | rfl | (simp; done) | (simp [*]; done)), H', ⟨by have := HK1.out; first | omega | exact Nat.le_refl _⟩, ⟨by (with_reducible repeat (first | apply Kd.R_alloc | apply Kd.R_drewN | apply Kd.R_drew)); exact HO_7.out⟩, ⟨by repeat (first | (with_reducible first | exact HB.out | apply below_alloc | apply pw_below_drewN | apply below_drew1) | exact HB.out)⟩⟩
            · rw [if_neg c8] at H
              have c8b0 : (x6_1 == 0) = false := beq_eq_false_iff_ne.mpr c8
              have c8b1 : (x6_1 != 0) = true := bne_iff_ne.mpr c8
              (first | rw [c8b0] | (simp only [i64_w, i32_w]; rw [c8b0]) | skip)
              have H' := Aside0.mk H
              clear H
              go_wp2
              go_meet
              case rel => exact ⟨_, (false), (by first | rfl | (simp; done) | (simp [*]; done)), H', ⟨by have := HK1.out; first | omega | exact Nat.le_refl _⟩, ⟨by (with_reducible repeat (first | apply Kd.R_alloc | apply Kd.R_drewN | apply Kd.R_drew)); exact HO_7.out⟩, ⟨by repeat (first | (with_reducible first | exact HB.out | apply below_alloc | apply pw_below_drewN | apply below_drew1) | exact HB.out)⟩⟩
          case rest =>
            clear HC7
            try clear c1
            try clear p2
            try clear c3
            try clear c3b0
            try clear c3b1
            try clear c4
            try clear c4b0
            try clear c4b1
            try clear c8
            try clear c8b0
            try clear c8b1
            try clear p2
            obtain ⟨kq, x27_6, rfl, HA, HJ6, HO_7, HB⟩ := hcut
            cases kq with
            | zero => exact absurd HA.out (by simp [lookoutref08_Decode.j1])
            | succ kj6 =>
              have H := HA.out
              clear HA
              simp only [lookoutref08_Decode.j1] at H
              by_cases c10 : x27_6 = true
              · subst c10
                have H1 : ((lookoutref01_Read.f kj6 x0_1).bind fun bt204 => (if 0 ≤ bt204.2.1 then (if bt204.2.1 ≤ (x0_1.size : Int) then (if bt204.2.2 = 0 then (if bt204.1 > (wrap64 ((wrap64 (1152921504606846976 - x8_1)) - 1)) then (if x7_1.length < 17592186044416 then (lookoutref08_Decode.l0 kj6 (x0_1.extract (bt204.2.1 : Int).toNat x0_1.size) t198 12 (x7_1 ++ [wrap64 ((wrap64 (x8_1 + 1)) + bt204.1)]) (wrap64 ((wrap64 (x8_1 + 1)) + bt204.1))) else (none)) else (if x7_1.length < 17592186044416 then (lookoutref08_Decode.l0 kj6 (x0_1.extract (bt204.2.1 : Int).toNat x0_1.size) t198 bt204.2.2 (x7_1 ++ [wrap64 ((wrap64 (x8_1 + 1)) + bt204.1)]) (wrap64 ((wrap64 (x8_1 + 1)) + bt204.1))) else (none))) else (if x7_1.length < 17592186044416 then (lookoutref08_Decode.l0 kj6 (x0_1.extract (bt204.2.1 : Int).toNat x0_1.size) t198 bt204.2.2 (x7_1 ++ [wrap64 ((wrap64 (x8_1 + 1)) + bt204.1)]) (wrap64 ((wrap64 (x8_1 + 1)) + bt204.1))) else (none))) else (none)) else (none))) = some (r1, r2) := by rw [if_pos rfl] at H; exact H
                clear H
                have H := H1
                clear H1
                replace H := Option.bind_eq_some_iff.mp H
                obtain ⟨⟨t204, t205, t206⟩, A110, H⟩ := H
                replace H : (if 0 ≤ t205 then (if t205 ≤ (x0_1.size : Int) then (if t206 = 0 then (if t204 > (wrap64 ((wrap64 (1152921504606846976 - x8_1)) - 1)) then (if x7_1.length < 17592186044416 then (lookoutref08_Decode.l0 kj6 (x0_1.extract (t205 : Int).toNat x0_1.size) t198 12 (x7_1 ++ [wrap64 ((wrap64 (x8_1 + 1)) + t204)]) (wrap64 ((wrap64 (x8_1 + 1)) + t204))) else (none)) else (if x7_1.length < 17592186044416 then (lookoutref08_Decode.l0 kj6 (x0_1.extract (t205 : Int).toNat x0_1.size) t198 t206 (x7_1 ++ [wrap64 ((wrap64 (x8_1 + 1)) + t204)]) (wrap64 ((wrap64 (x8_1 + 1)) + t204))) else (none))) else (if x7_1.length < 17592186044416 then (lookoutref08_Decode.l0 kj6 (x0_1.extract (t205 : Int).toNat x0_1.size) t198 t206 (x7_1 ++ [wrap64 ((wrap64 (x8_1 + 1)) + t204)]) (wrap64 ((wrap64 (x8_1 + 1)) + t204))) else (none))) else (none)) else (none)) = some (r1, r2) := H
                have A11 := Aside0.mk A110
                clear A110
                by_cases c12 : 0 ≤ t205
                · rw [if_pos c12] at H
                  have c12b0 := eq_true c12
                  have c12b1 : decide (0 ≤ t205) = true := decide_eq_true c12
                  clear c12
                  by_cases c13 : t205 ≤ (x0_1.size : Int)
                  · rw [if_pos c13] at H
                    have c13b0 := eq_true c13
                    have c13b1 : decide (t205 ≤ (x0_1.size : Int)) = true := decide_eq_true c13
                    clear c13
                    by_cases c14 : t206 = 0
                    · rw [if_pos c14] at H
                      have c14b0 : (t206 == 0) = true := beq_iff_eq.mpr c14
                      have c14b1 : (t206 != 0) = false := bne_eq_false_iff_eq.mpr c14
                      clear c14
                      by_cases c15 : t204 > (wrap64 ((wrap64 (1152921504606846976 - x8_1)) - 1))
                      · rw [if_pos c15] at H
                        have c15b0 : decide ((wrap64 ((wrap64 (1152921504606846976 - x8_1)) - 1)) < t204) = true := decide_eq_true c15
                        clear c15
                        by_cases c16 : x7_1.length < 17592186044416
                        · rw [if_pos c16] at H
                          have LMc16 := Aside0.mk c16
                          clear c16
                          obtain ⟨y207, hy207⟩ : ∃ y_ : List Int, y_ = (x7_1 ++ [wrap64 ((wrap64 (x8_1 + 1)) + t204)]) := ⟨_, rfl⟩
                          replace H : (lookoutref08_Decode.l0 kj6 (x0_1.extract (t205 : Int).toNat x0_1.size) t198 12 y207 (wrap64 ((wrap64 (x8_1 + 1)) + t204))) = some (r1, r2) := by first | (rw [hy207]; with_reducible exact H) | (have H2_ := (Option.bind_some _ _).symm.trans H; rw [hy207]; with_reducible exact H2_) | (have H2_ := (Option.bind_some _ _).symm.trans H; with_reducible exact H2_) | with_reducible exact H | (rw [hy207]; exact H) | exact H
                          have Ny207 := Aside0.mk hy207
                          clear hy207
                          have H' := Aside0.mk H
                          clear H
                          go_wp2_with (first | ((with_reducible refine gate_callee (f := 38) rfl ?_); refine goesL_ (some 30) rfl rfl Try.func38 (by kernel_rfl) rfl #[.string x0_1] rfl (by (try simp only [List.map_toArray, List.map_cons, List.map_nil]); first | done | rfl | (simp only [List.length_drop, List.length_take]; rfl)) ?_; (with_reducible refine (lookoutref01_Read.calls kj6 x0_1 t204 t205 t206 _ A11.out).mono ?_); rintro e w' ⟨rfl, ⟨nd, rfl⟩⟩; refine ⟨_, rfl, ?_⟩) | ((with_reducible refine gate_builtin (b := .append) (xs := #[.tmp 50, .tmp 52]) rfl ?_); (try (refine gate_guard (by rfl) ?_; dsimp only)); at_builtin; refine Kd.R_append (Kd.int .i64) (w0 := w) w.heap.size rfl (.tmp 50) (.tmp 52) 23 3 (.int .i64 0) 8 rfl Try.underlying23 info3 rfl (by decide) (by omega) u7 x7_1 (wrap64 ((wrap64 (x8_1 + 1)) + t204)) [.int .i64 (wrap64 ((wrap64 (x8_1 + 1)) + t204))] (fun _ => True) (fun _ => False) rfl rfl ?aP (fun _ hk => hk.elim) ?aF ?aO ?aB ?aS ?aL ?_; (case aP => exact rfl); (case aB => exact (by repeat (first | (with_reducible first | exact HB.out | apply below_alloc | apply pw_below_drewN | apply below_drew1) | exact HB.out))); (case aF => exact (fun _ _ => trivial)); (case aO => exact (by (with_reducible repeat (first | apply Kd.R_alloc | apply Kd.R_drewN | apply Kd.R_drew)); exact HO_7.out)); (case aS => exact (below_size (by repeat (first | (with_reducible first | exact HB.out | apply below_alloc | apply pw_below_drewN | apply below_drew1) | exact HB.out)))); (case aL => have := LMc16.out; omega); intro v208 w17 ho hb hg hat; rw [← Ny207.out] at ho; have n0_ := Aside0.mk (hb); have n1_ := Aside0.mk (ho); clear HB; clear HO_7; have HB := n0_; have HO209 := n1_; clear n0_ n1_; clear ho hb hg hat))
                          go_roundg kj6
                          case measure => have := HK1.out; have := HJ6.out; omega
                          case rel => exact ⟨(x0_1.extract (t205 : Int).toNat x0_1.size), (12), (y207), (wrap64 ((wrap64 (x8_1 + 1)) + t204)), (by first | rfl | (simp; done) | (simp [*]; done)), (by first | rfl | (simp; done) | (simp [*]; done)), (by first | rfl | (simp; done) | (simp [*]; done)), H', ⟨by have := HK1.out; have := HJ6.out; omega⟩, ⟨by (with_reducible repeat (first | apply Kd.R_alloc | apply Kd.R_drewN | apply Kd.R_drew)); exact HO209.out⟩, ⟨by repeat (first | (with_reducible first | exact HB.out | apply below_alloc | apply pw_below_drewN | apply below_drew1) | exact HB.out)⟩⟩
                        · rw [if_neg c16] at H
                          exact absurd H (by simp)
                      · rw [if_neg c15] at H
                        have c15b0 : decide ((wrap64 ((wrap64 (1152921504606846976 - x8_1)) - 1)) < t204) = false := decide_eq_false c15
                        clear c15
                        by_cases c18 : x7_1.length < 17592186044416
                        · rw [if_pos c18] at H
                          have LMc18 := Aside0.mk c18
                          clear c18
                          obtain ⟨y210, hy210⟩ : ∃ y_ : List Int, y_ = (x7_1 ++ [wrap64 ((wrap64 (x8_1 + 1)) + t204)]) := ⟨_, rfl⟩
                          replace H : (lookoutref08_Decode.l0 kj6 (x0_1.extract (t205 : Int).toNat x0_1.size) t198 t206 y210 (wrap64 ((wrap64 (x8_1 + 1)) + t204))) = some (r1, r2) := by first | (rw [hy210]; with_reducible exact H) | (have H2_ := (Option.bind_some _ _).symm.trans H; rw [hy210]; with_reducible exact H2_) | (have H2_ := (Option.bind_some _ _).symm.trans H; with_reducible exact H2_) | with_reducible exact H | (rw [hy210]; exact H) | exact H
                          have Ny210 := Aside0.mk hy210
                          clear hy210
                          have H' := Aside0.mk H
                          clear H
                          go_wp2_with (first | ((with_reducible refine gate_callee (f := 38) rfl ?_); refine goesL_ (some 30) rfl rfl Try.func38 (by kernel_rfl) rfl #[.string x0_1] rfl (by (try simp only [List.map_toArray, List.map_cons, List.map_nil]); first | done | rfl | (simp only [List.length_drop, List.length_take]; rfl)) ?_; (with_reducible refine (lookoutref01_Read.calls kj6 x0_1 t204 t205 t206 _ A11.out).mono ?_); rintro e w' ⟨rfl, ⟨nd, rfl⟩⟩; refine ⟨_, rfl, ?_⟩) | ((with_reducible refine gate_builtin (b := .append) (xs := #[.tmp 50, .tmp 52]) rfl ?_); (try (refine gate_guard (by rfl) ?_; dsimp only)); at_builtin; refine Kd.R_append (Kd.int .i64) (w0 := w) w.heap.size rfl (.tmp 50) (.tmp 52) 23 3 (.int .i64 0) 8 rfl Try.underlying23 info3 rfl (by decide) (by omega) u7 x7_1 (wrap64 ((wrap64 (x8_1 + 1)) + t204)) [.int .i64 (wrap64 ((wrap64 (x8_1 + 1)) + t204))] (fun _ => True) (fun _ => False) rfl rfl ?aP (fun _ hk => hk.elim) ?aF ?aO ?aB ?aS ?aL ?_; (case aP => exact rfl); (case aB => exact (by repeat (first | (with_reducible first | exact HB.out | apply below_alloc | apply pw_below_drewN | apply below_drew1) | exact HB.out))); (case aF => exact (fun _ _ => trivial)); (case aO => exact (by (with_reducible repeat (first | apply Kd.R_alloc | apply Kd.R_drewN | apply Kd.R_drew)); exact HO_7.out)); (case aS => exact (below_size (by repeat (first | (with_reducible first | exact HB.out | apply below_alloc | apply pw_below_drewN | apply below_drew1) | exact HB.out)))); (case aL => have := LMc18.out; omega); intro v211 w19 ho hb hg hat; rw [← Ny210.out] at ho; have n0_ := Aside0.mk (hb); have n1_ := Aside0.mk (ho); clear HB; clear HO_7; have HB := n0_; have HO212 := n1_; clear n0_ n1_; clear ho hb hg hat))
                          go_roundg kj6
                          case measure => have := HK1.out; have := HJ6.out; omega
                          case rel => exact ⟨(x0_1.extract (t205 : Int).toNat x0_1.size), (t206), (y210), (wrap64 ((wrap64 (x8_1 + 1)) + t204)), (by first | rfl | (simp; done) | (simp [*]; done)), (by first | rfl | (simp; done) | (simp [*]; done)), (by first | rfl | (simp; done) | (simp [*]; done)), H', ⟨by have := HK1.out; have := HJ6.out; omega⟩, ⟨by (with_reducible repeat (first | apply Kd.R_alloc | apply Kd.R_drewN | apply Kd.R_drew)); exact HO212.out⟩, ⟨by repeat (first | (with_reducible first | exact HB.out | apply below_alloc | apply pw_below_drewN | apply below_drew1) | exact HB.out)⟩⟩
                        · rw [if_neg c18] at H
                          exact absurd H (by simp)
                    · rw [if_neg c14] at H
                      have c14b0 : (t206 == 0) = false := beq_eq_false_iff_ne.mpr c14
                      have c14b1 : (t206 != 0) = true := bne_iff_ne.mpr c14
                      by_cases c20 : x7_1.length < 17592186044416
                      · rw [if_pos c20] at H
                        have LMc20 := Aside0.mk c20
                        clear c20
                        obtain ⟨y213, hy213⟩ : ∃ y_ : List Int, y_ = (x7_1 ++ [wrap64 ((wrap64 (x8_1 + 1)) + t204)]) := ⟨_, rfl⟩
                        replace H : (lookoutref08_Decode.l0 kj6 (x0_1.extract (t205 : Int).toNat x0_1.size) t198 t206 y213 (wrap64 ((wrap64 (x8_1 + 1)) + t204))) = some (r1, r2) := by first | (rw [hy213]; with_reducible exact H) | (have H2_ := (Option.bind_some _ _).symm.trans H; rw [hy213]; with_reducible exact H2_) | (have H2_ := (Option.bind_some _ _).symm.trans H; with_reducible exact H2_) | with_reducible exact H | (rw [hy213]; exact H) | exact H
                        have Ny213 := Aside0.mk hy213
                        clear hy213
                        have H' := Aside0.mk H
                        clear H
                        go_wp2_with (first | ((with_reducible refine gate_callee (f := 38) rfl ?_); refine goesL_ (some 30) rfl rfl Try.func38 (by kernel_rfl) rfl #[.string x0_1] rfl (by (try simp only [List.map_toArray, List.map_cons, List.map_nil]); first | done | rfl | (simp only [List.length_drop, List.length_take]; rfl)) ?_; (with_reducible refine (lookoutref01_Read.calls kj6 x0_1 t204 t205 t206 _ A11.out).mono ?_); rintro e w' ⟨rfl, ⟨nd, rfl⟩⟩; refine ⟨_, rfl, ?_⟩) | ((with_reducible refine gate_builtin (b := .append) (xs := #[.tmp 50, .tmp 52]) rfl ?_); (try (refine gate_guard (by rfl) ?_; dsimp only)); at_builtin; refine Kd.R_append (Kd.int .i64) (w0 := w) w.heap.size rfl (.tmp 50) (.tmp 52) 23 3 (.int .i64 0) 8 rfl Try.underlying23 info3 rfl (by decide) (by omega) u7 x7_1 (wrap64 ((wrap64 (x8_1 + 1)) + t204)) [.int .i64 (wrap64 ((wrap64 (x8_1 + 1)) + t204))] (fun _ => True) (fun _ => False) rfl rfl ?aP (fun _ hk => hk.elim) ?aF ?aO ?aB ?aS ?aL ?_; (case aP => exact rfl); (case aB => exact (by repeat (first | (with_reducible first | exact HB.out | apply below_alloc | apply pw_below_drewN | apply below_drew1) | exact HB.out))); (case aF => exact (fun _ _ => trivial)); (case aO => exact (by (with_reducible repeat (first | apply Kd.R_alloc | apply Kd.R_drewN | apply Kd.R_drew)); exact HO_7.out)); (case aS => exact (below_size (by repeat (first | (with_reducible first | exact HB.out | apply below_alloc | apply pw_below_drewN | apply below_drew1) | exact HB.out)))); (case aL => have := LMc20.out; omega); intro v214 w21 ho hb hg hat; rw [← Ny213.out] at ho; have n0_ := Aside0.mk (hb); have n1_ := Aside0.mk (ho); clear HB; clear HO_7; have HB := n0_; have HO215 := n1_; clear n0_ n1_; clear ho hb hg hat))
                        go_roundg kj6
                        case measure => have := HK1.out; have := HJ6.out; omega
                        case rel => exact ⟨(x0_1.extract (t205 : Int).toNat x0_1.size), (t206), (y213), (wrap64 ((wrap64 (x8_1 + 1)) + t204)), (by first | rfl | (simp; done) | (simp [*]; done)), (by first | rfl | (simp; done) | (simp [*]; done)), (by first | rfl | (simp; done) | (simp [*]; done)), H', ⟨by have := HK1.out; have := HJ6.out; omega⟩, ⟨by (with_reducible repeat (first | apply Kd.R_alloc | apply Kd.R_drewN | apply Kd.R_drew)); exact HO215.out⟩, ⟨by repeat (first | (with_reducible first | exact HB.out | apply below_alloc | apply pw_below_drewN | apply below_drew1) | exact HB.out)⟩⟩
                      · rw [if_neg c20] at H
                        exact absurd H (by simp)
                  · rw [if_neg c13] at H
                    exact absurd H (by simp)
                · rw [if_neg c12] at H
                  exact absurd H (by simp)
              · replace c10 := Bool.eq_false_iff.mpr c10
                subst c10
                have H1 : (if x6_1 = 0 then (if x0_1.toList = ([] : List UInt8) then (some (x7_1, 0)) else (some ((([] : List Int)), 12))) else (some ((([] : List Int)), 12))) = some (r1, r2) := by rw [if_neg (show ¬ (false = true) by decide)] at H; exact H
                clear H
                have H := H1
                clear H1
                by_cases c22 : x6_1 = 0
                · rw [if_pos c22] at H
                  have c22b0 : (x6_1 == 0) = true := beq_iff_eq.mpr c22
                  have c22b1 : (x6_1 != 0) = false := bne_eq_false_iff_eq.mpr c22
                  clear c22
                  by_cases c23 : x0_1.toList = ([] : List UInt8)
                  · rw [if_pos c23] at H
                    have c23b0 : (x0_1.toList == ([] : List UInt8)) = true := beq_iff_eq.mpr c23
                    have c23b1 : (x0_1.toList != ([] : List UInt8)) = false := bne_eq_false_iff_eq.mpr c23
                    clear c23
                    simp only [Option.some.injEq, Prod.mk.injEq] at H
                    obtain ⟨rfl, rfl⟩ := H
                    go_wp2
                    go_ret2
                    exact ⟨_, by first | rfl | (simp [errW_none, errW_some] <;> rfl) | (simp [*, errW_none, errW_some] <;> rfl), by (with_reducible repeat (first | apply Kd.R_alloc | apply Kd.R_drewN | apply Kd.R_drew)); exact HO_7.out, by repeat (first | (with_reducible first | exact HB.out | apply below_alloc | apply pw_below_drewN | apply below_drew1) | exact HB.out)⟩
                  · rw [if_neg c23] at H
                    have c23b0 : (x0_1.toList == ([] : List UInt8)) = false := beq_eq_false_iff_ne.mpr c23
                    have c23b1 : (x0_1.toList != ([] : List UInt8)) = true := bne_iff_ne.mpr c23
                    obtain ⟨y216, hy216⟩ : ∃ y_ : List Int, y_ = (([] : List Int)) := ⟨_, rfl⟩
                    replace H : (some (y216, 12)) = some (r1, r2) := by first | (rw [hy216]; with_reducible exact H) | (have H2_ := (Option.bind_some _ _).symm.trans H; rw [hy216]; with_reducible exact H2_) | (have H2_ := (Option.bind_some _ _).symm.trans H; with_reducible exact H2_) | with_reducible exact H | (rw [hy216]; exact H) | exact H
                    have Ny216 := Aside0.mk hy216
                    clear hy216
                    simp only [Option.some.injEq, Prod.mk.injEq] at H
                    obtain ⟨rfl, rfl⟩ := H
                    go_wp2_with (first | ((with_reducible refine gate_dst (N := 60) rfl ?_); (try (refine gate_guard (by rfl) ?_; dsimp only)); refine Kd.R_lit (Kd.int .i64) _ 3 ?hg (N := 60) ?hd (xs := ([] : List Int)) (inner := []) (ok := fun _ => True) (okp := fun _ => True) ?hr ?hp (fun _ hk => hk) trivial (Below.refl _ _) (Nat.le_refl _) (by simp) ?_; (case hd => rfl); (case hg => rfl); (case hr => first | (go_simp; done) | (go_simp; rfl)); (case hp => exact (Reps.none _ _)); intro v217 w24 ho25 hb hg_ hnew_; clear hg_ hnew_; (first | rw [← Ny216.out] at ho25 | (simp only [Int.reduceToNat] at ho25; rw [← Ny216.out] at ho25)); have n0_ := Aside0.mk (Kd.R_elder' (by (with_reducible repeat (first | apply Kd.R_alloc | apply Kd.R_drewN | apply Kd.R_drew)); exact HO_7.out) (Kd.R_base ho25) hb); have n1_ := Aside0.mk (Kd.R_lower (Kd.R_new' ho25 (Kd.R_lt (by (with_reducible repeat (first | apply Kd.R_alloc | apply Kd.R_drewN | apply Kd.R_drew)); exact HO_7.out))) (below_size (by repeat (first | (with_reducible first | exact HB.out | apply below_alloc | apply pw_below_drewN | apply below_drew1) | exact HB.out)))); have n2_ := Aside0.mk (below_step (by repeat (first | (with_reducible first | exact HB.out | apply below_alloc | apply pw_below_drewN | apply below_drew1) | exact HB.out)) hb); clear HO_7; clear HB; have HO_7 := n0_; have HO218 := n1_; have HB := n2_; clear n0_ n1_ n2_; clear hb ho25))
                    go_ret2
                    exact ⟨_, by first | rfl | (simp [errW_none, errW_some] <;> rfl) | (simp [*, errW_none, errW_some] <;> rfl), by (with_reducible repeat (first | apply Kd.R_alloc | apply Kd.R_drewN | apply Kd.R_drew)); exact Kd.R_mono HO218.out (fun _ hk => trivial), by repeat (first | (with_reducible first | exact HB.out | apply below_alloc | apply pw_below_drewN | apply below_drew1) | exact HB.out)⟩
                · rw [if_neg c22] at H
                  have c22b0 : (x6_1 == 0) = false := beq_eq_false_iff_ne.mpr c22
                  have c22b1 : (x6_1 != 0) = true := bne_iff_ne.mpr c22
                  obtain ⟨y219, hy219⟩ : ∃ y_ : List Int, y_ = (([] : List Int)) := ⟨_, rfl⟩
                  replace H : (some (y219, 12)) = some (r1, r2) := by first | (rw [hy219]; with_reducible exact H) | (have H2_ := (Option.bind_some _ _).symm.trans H; rw [hy219]; with_reducible exact H2_) | (have H2_ := (Option.bind_some _ _).symm.trans H; with_reducible exact H2_) | with_reducible exact H | (rw [hy219]; exact H) | exact H
                  have Ny219 := Aside0.mk hy219
                  clear hy219
                  simp only [Option.some.injEq, Prod.mk.injEq] at H
                  obtain ⟨rfl, rfl⟩ := H
                  go_wp2_with (first | ((with_reducible refine gate_dst (N := 60) rfl ?_); (try (refine gate_guard (by rfl) ?_; dsimp only)); refine Kd.R_lit (Kd.int .i64) _ 3 ?hg (N := 60) ?hd (xs := ([] : List Int)) (inner := []) (ok := fun _ => True) (okp := fun _ => True) ?hr ?hp (fun _ hk => hk) trivial (Below.refl _ _) (Nat.le_refl _) (by simp) ?_; (case hd => rfl); (case hg => rfl); (case hr => first | (go_simp; done) | (go_simp; rfl)); (case hp => exact (Reps.none _ _)); intro v220 w26 ho27 hb hg_ hnew_; clear hg_ hnew_; (first | rw [← Ny219.out] at ho27 | (simp only [Int.reduceToNat] at ho27; rw [← Ny219.out] at ho27)); have n0_ := Aside0.mk (Kd.R_elder' (by (with_reducible repeat (first | apply Kd.R_alloc | apply Kd.R_drewN | apply Kd.R_drew)); exact HO_7.out) (Kd.R_base ho27) hb); have n1_ := Aside0.mk (Kd.R_lower (Kd.R_new' ho27 (Kd.R_lt (by (with_reducible repeat (first | apply Kd.R_alloc | apply Kd.R_drewN | apply Kd.R_drew)); exact HO_7.out))) (below_size (by repeat (first | (with_reducible first | exact HB.out | apply below_alloc | apply pw_below_drewN | apply below_drew1) | exact HB.out)))); have n2_ := Aside0.mk (below_step (by repeat (first | (with_reducible first | exact HB.out | apply below_alloc | apply pw_below_drewN | apply below_drew1) | exact HB.out)) hb); clear HO_7; clear HB; have HO_7 := n0_; have HO221 := n1_; have HB := n2_; clear n0_ n1_ n2_; clear hb ho27))
                  go_ret2
                  exact ⟨_, by first | rfl | (simp [errW_none, errW_some] <;> rfl) | (simp [*, errW_none, errW_some] <;> rfl), by (with_reducible repeat (first | apply Kd.R_alloc | apply Kd.R_drewN | apply Kd.R_drew)); exact Kd.R_mono HO221.out (fun _ hk => trivial), by repeat (first | (with_reducible first | exact HB.out | apply below_alloc | apply pw_below_drewN | apply below_drew1) | exact HB.out)⟩
    · rw [if_neg c4] at H
      exact absurd H (by simp)
  · rw [if_neg c3] at H
    exact absurd H (by simp)

/-! ### lookoutlaw08_PostingsDecode: function 3 -/
def lookoutlaw08_PostingsDecode.f (k : Nat) (a0 : ByteArray) : Option (Bool) := if (a0.size : Int) > 300 then ((lookoutlaw08_awake.f k).bind fun t222 => (some t222)) else ((postings_Decode.f k a0).bind fun bt223 => ((lookoutref08_Decode.f k a0).bind fun bt227 => ((lookoutref08_Same.f k bt223.1 bt227.1).bind fun t231 => (if t231 = true then (if bt223.2 = bt227.2 then ((lookoutlaw08_awake.f k).bind fun t232 => (some t232)) else (none)) else (none)))))
theorem lookoutlaw08_PostingsDecode.mono : ∀ a0 k, LeO (lookoutlaw08_PostingsDecode.f k a0) (lookoutlaw08_PostingsDecode.f (k + 1) a0) := by
  intro a0 k
  unfold lookoutlaw08_PostingsDecode.f
  repeat' first
      | (with_reducible exact lookoutlaw08_awake.mono _)
      | (with_reducible exact lookoutref08_Decode.mono _ _)
      | (with_reducible exact lookoutref08_Same.mono _ _ _)
      | (with_reducible exact postings_Decode.mono _ _)
      | (with_reducible exact LeO.refl _)
      | (with_reducible exact LeO.none _)
      | (with_reducible refine LeO.ite ?_ ?_)
      | (with_reducible refine LeO.bind ?_ (fun _ => ?_))
      | exact lookoutlaw08_awake.mono _
      | exact lookoutref08_Decode.mono _ _
      | exact lookoutref08_Same.mono _ _ _
      | exact postings_Decode.mono _ _
      | exact LeO.none _
      | refine LeO.ite ?_ ?_
      | refine LeO.bind ?_ (fun _ => ?_)
set_option maxHeartbeats 8000000 in
set_option maxRecDepth 100000 in
theorem lookoutlaw08_PostingsDecode.calls (k : Nat) (a0 : ByteArray) (r : Bool) (w : World) (h : lookoutlaw08_PostingsDecode.f k a0 = some r) :
    Calls Try.prog 3 #[.string a0] w fun e w' => e = .returned (.bool r) ∧ Below w.heap.size w w' := by
  have HB := Aside0.mk (Below.refl w.heap.size w)
  have H : (if (a0.size : Int) > 300 then ((lookoutlaw08_awake.f k).bind fun t222 => (some t222)) else ((postings_Decode.f k a0).bind fun bt223 => ((lookoutref08_Decode.f k a0).bind fun bt227 => ((lookoutref08_Same.f k bt223.1 bt227.1).bind fun t231 => (if t231 = true then (if bt223.2 = bt227.2 then ((lookoutlaw08_awake.f k).bind fun t232 => (some t232)) else (none)) else (none)))))) = some r := h
  clear h
  by_cases c2 : (a0.size : Int) > 300
  · rw [if_pos c2] at H
    have c2b0 : decide (300 < (a0.size : Int)) = true := decide_eq_true c2
    have c2b1 : decide (300 < a0.size) = true := decide_eq_true (by omega)
    clear c2
    replace H := Option.bind_eq_some_iff.mp H
    obtain ⟨t222, A30, H⟩ := H
    replace H : (some t222) = some r := H
    have A3 := Aside0.mk A30
    clear A30
    obtain rfl := Option.some.inj H
    go_enter Try.func3, Try.ntmps3
    go_wp2_with (first | ((with_reducible refine gate_callee (f := 12) rfl ?_); refine goesL_ (some 10) rfl rfl Try.func12 (by kernel_rfl) rfl #[] rfl (by (try simp only [List.map_toArray, List.map_cons, List.map_nil]); first | done | rfl | (simp only [List.length_drop, List.length_take]; rfl)) ?_; (with_reducible refine (lookoutlaw08_awake.calls k  t222 _ A3.out).mono ?_); rintro e w4 ⟨rfl, hb⟩; refine ⟨_, rfl, ?_⟩; have n0_ := Aside0.mk (below_step (by repeat (first | (with_reducible first | exact HB.out | apply below_alloc | apply pw_below_drewN | apply below_drew1) | exact HB.out)) hb); clear HB; have HB := n0_; clear n0_; (try clear hb); (try clear hb2); (try clear hk); (try clear hi)))
    go_ret
    exact ⟨by first | rfl | (simp [errW_none, errW_some] <;> rfl) | (simp [*, errW_none, errW_some] <;> rfl), by repeat (first | (with_reducible first | exact HB.out | apply below_alloc | apply pw_below_drewN | apply below_drew1) | exact HB.out)⟩
  · rw [if_neg c2] at H
    have c2b0 : decide (300 < (a0.size : Int)) = false := decide_eq_false c2
    have c2b1 : decide (300 < a0.size) = false := decide_eq_false (by omega)
    clear c2
    replace H := Option.bind_eq_some_iff.mp H
    obtain ⟨⟨t223, t224⟩, A50, H⟩ := H
    replace H : ((lookoutref08_Decode.f k a0).bind fun bt227 => ((lookoutref08_Same.f k t223 bt227.1).bind fun t231 => (if t231 = true then (if t224 = bt227.2 then ((lookoutlaw08_awake.f k).bind fun t232 => (some t232)) else (none)) else (none)))) = some r := H
    have A5 := Aside0.mk A50
    clear A50
    replace H := Option.bind_eq_some_iff.mp H
    obtain ⟨⟨t227, t228⟩, A60, H⟩ := H
    replace H : ((lookoutref08_Same.f k t223 t227).bind fun t231 => (if t231 = true then (if t224 = t228 then ((lookoutlaw08_awake.f k).bind fun t232 => (some t232)) else (none)) else (none))) = some r := H
    have A6 := Aside0.mk A60
    clear A60
    replace H := Option.bind_eq_some_iff.mp H
    obtain ⟨t231, A70, H⟩ := H
    replace H : (if t231 = true then (if t224 = t228 then ((lookoutlaw08_awake.f k).bind fun t232 => (some t232)) else (none)) else (none)) = some r := H
    have A7 := Aside0.mk A70
    clear A70
    by_cases c8 : t231 = true
    · subst c8
      have H1 : (if t224 = t228 then ((lookoutlaw08_awake.f k).bind fun t232 => (some t232)) else (none)) = some r := by rw [if_pos rfl] at H; exact H
      clear H
      have H := H1
      clear H1
      by_cases c9 : t224 = t228
      · rw [if_pos c9] at H
        have c9b0 : (t224 == t228) = true := beq_iff_eq.mpr c9
        have c9b1 : (t224 != t228) = false := bne_eq_false_iff_eq.mpr c9
        clear c9
        replace H := Option.bind_eq_some_iff.mp H
        obtain ⟨t232, A100, H⟩ := H
        replace H : (some t232) = some r := H
        have A10 := Aside0.mk A100
        clear A100
        obtain rfl := Option.some.inj H
        go_enter Try.func3, Try.ntmps3
        go_wp2_with (first | ((with_reducible refine gate_callee (f := 13) rfl ?_); refine goesL_ (some 13) rfl rfl Try.func13 (by kernel_rfl) rfl #[.string a0] rfl (by (try simp only [List.map_toArray, List.map_cons, List.map_nil]); first | done | rfl | (simp only [List.length_drop, List.length_take]; rfl)) ?_; (with_reducible refine (postings_Decode.calls k a0 t223 t224 _ A5.out).mono ?_); rintro e w11 ⟨v225, rfl, ho0, hb⟩; refine ⟨_, rfl, ?_⟩; have n0_ := Aside0.mk (Kd.R_lower ho0 (below_size (by repeat (first | (with_reducible first | exact HB.out | apply below_alloc | apply pw_below_drewN | apply below_drew1) | exact HB.out)))); have n1_ := Aside0.mk (below_step (by repeat (first | (with_reducible first | exact HB.out | apply below_alloc | apply pw_below_drewN | apply below_drew1) | exact HB.out)) hb); clear HB; have HO226 := n0_; have HB := n1_; clear n0_ n1_; (try clear hb); (try clear hb2); (try clear hk); (try clear hi); (try clear ho0)) | ((with_reducible refine gate_callee (f := 14) rfl ?_); refine goesL_ (some 18) rfl rfl Try.func14 (by kernel_rfl) rfl #[.string a0] rfl (by (try simp only [List.map_toArray, List.map_cons, List.map_nil]); first | done | rfl | (simp only [List.length_drop, List.length_take]; rfl)) ?_; (with_reducible refine (lookoutref08_Decode.calls k a0 t227 t228 _ A6.out).mono ?_); rintro e w12 ⟨v229, rfl, ho0, hb⟩; refine ⟨_, rfl, ?_⟩; have n0_ := Aside0.mk (Kd.R_elder' (by (with_reducible repeat (first | apply Kd.R_alloc | apply Kd.R_drewN | apply Kd.R_drew)); exact HO226.out) (Kd.R_base ho0) hb); have n1_ := Aside0.mk (Kd.R_lower (Kd.R_new' ho0 (Kd.R_lt (by (with_reducible repeat (first | apply Kd.R_alloc | apply Kd.R_drewN | apply Kd.R_drew)); exact HO226.out))) (below_size (by repeat (first | (with_reducible first | exact HB.out | apply below_alloc | apply pw_below_drewN | apply below_drew1) | exact HB.out)))); have n2_ := Aside0.mk (below_step (by repeat (first | (with_reducible first | exact HB.out | apply below_alloc | apply pw_below_drewN | apply below_drew1) | exact HB.out)) hb); clear HO226; clear HB; have HO226 := n0_; have HO230 := n1_; have HB := n2_; clear n0_ n1_ n2_; (try clear hb); (try clear hb2); (try clear hk); (try clear hi); (try clear ho0); obtain ⟨Ao13, co13, eo13⟩ := Kd.R_slice HO226.out; subst eo13; obtain ⟨Ao14, co14, eo14⟩ := Kd.R_slice HO230.out; subst eo14) | ((with_reducible refine gate_callee (f := 15) rfl ?_); refine goesL_ (some 23) rfl rfl Try.func15 (by kernel_rfl) rfl #[.slice Ao13 t223.length co13, .slice Ao14 t227.length co14] rfl (by (try simp only [List.map_toArray, List.map_cons, List.map_nil]); first | done | rfl | (simp only [List.length_drop, List.length_take]; rfl)) ?_; (with_reducible refine (lookoutref08_Same.calls k _ _ t223 _ _ t227 true _ ?side1 ?side2 ?side3 ?side4 A7.out).mono ?_); (case side1 => repeat (first | exact (Kd.R_reads' HO226.out).2.2 | (with_reducible refine Kd.C_alloc ?_ _) | (with_reducible refine Kd.C_drewN ?_ _) | (with_reducible refine Kd.C_drew ?_))); (case side2 => exact (Kd.R_reads' HO226.out).2.1); (case side3 => repeat (first | exact (Kd.R_reads' HO230.out).2.2 | (with_reducible refine Kd.C_alloc ?_ _) | (with_reducible refine Kd.C_drewN ?_ _) | (with_reducible refine Kd.C_drew ?_))); (case side4 => exact (Kd.R_reads' HO230.out).2.1); rintro e w' ⟨rfl, ⟨nd, rfl⟩⟩; refine ⟨_, rfl, ?_⟩) | (go_at_call 12; (with_reducible refine (lookoutlaw08_awake.calls k  t232 _ A10.out).mono ?_); rintro e w15 ⟨rfl, hb⟩; have n0_ := Aside0.mk (Kd.R_below (by (with_reducible repeat (first | apply Kd.R_alloc | apply Kd.R_drewN | apply Kd.R_drew)); exact HO226.out) hb); have n1_ := Aside0.mk (Kd.R_below (by (with_reducible repeat (first | apply Kd.R_alloc | apply Kd.R_drewN | apply Kd.R_drew)); exact HO230.out) hb); have n2_ := Aside0.mk (below_step (by repeat (first | (with_reducible first | exact HB.out | apply below_alloc | apply pw_below_drewN | apply below_drew1) | exact HB.out)) hb); clear HO226; clear HO230; clear HB; have HO226 := n0_; have HO230 := n1_; have HB := n2_; clear n0_ n1_ n2_; (try clear hb); (try clear hb2); (try clear hk); (try clear hi)))
        go_ret
        exact ⟨by first | rfl | (simp [errW_none, errW_some] <;> rfl) | (simp [*, errW_none, errW_some] <;> rfl), by repeat (first | (with_reducible first | exact HB.out | apply below_alloc | apply pw_below_drewN | apply below_drew1) | exact HB.out)⟩
      · rw [if_neg c9] at H
        exact absurd H (by simp)
    · replace c8 := Bool.eq_false_iff.mpr c8
      subst c8
      have H1 : (none) = some r := by rw [if_neg (show ¬ (false = true) by decide)] at H; exact H
      clear H
      have H := H1
      clear H1
      exact absurd H (by simp)

/-- THE ONE PURE STATEMENT of lookoutlaw08_PostingsDecode. -/
def lookoutlaw08_PostingsDecode.Pure : Prop := ∀ (a0 : ByteArray), a0.size ≤ 140737488351232 → ∃ k, lookoutlaw08_PostingsDecode.f k a0 = some true

-- NOT PRINTED: function 56 (slices_IndexFunc_int_int)

-- NOT PRINTED: function 33 (slices_ContainsFunc_int_int)

/-! ### lookoutlaw08_great: function 16 -/
def lookoutlaw08_great.f (l0 : List (List Int)) : Option (Bool) := if (l0.length : Int) > 8 then (some true) else ((contains_great.f l0).bind fun t233 => (some t233))
set_option maxHeartbeats 8000000 in
set_option maxRecDepth 100000 in
theorem lookoutlaw08_great.calls (A0 : Option Addr) (c0 : Nat) (l0 : List (List Int)) (r : Bool) (w : World) (hr0 : Kd.C (Kd.slice 3 (Kd.int .i64)) w A0 l0.length l0) (hc0 : l0.length ≤ c0) (h : lookoutlaw08_great.f l0 = some r) :
    Calls Try.prog 16 #[.slice A0 l0.length c0] w fun e w' => e = .returned (.bool r) ∧ Drawn0 w w' := by
  have HR0 := Aside0.mk hr0
  have HC0 := Aside0.mk hc0
  clear hr0 hc0
  have H : (if (l0.length : Int) > 8 then (some true) else ((contains_great.f l0).bind fun t233 => (some t233))) = some r := h
  clear h
  by_cases c2 : (l0.length : Int) > 8
  · rw [if_pos c2] at H
    have c2b0 : decide (8 < (l0.length : Int)) = true := decide_eq_true c2
    have c2b1 : decide (8 < l0.length) = true := decide_eq_true (by omega)
    clear c2
    obtain rfl := Option.some.inj H
    go_enter Try.func16, Try.ntmps16
    go_wp2
    go_ret
    exact ⟨by first | rfl | (simp; done) | (simp [*]; done), by repeat (first | exact Drawn0.refl _ | apply Drawn0.step)⟩
  · rw [if_neg c2] at H
    have c2b0 : decide (8 < (l0.length : Int)) = false := decide_eq_false c2
    have c2b1 : decide (8 < l0.length) = false := decide_eq_false (by omega)
    clear c2
    replace H := Option.bind_eq_some_iff.mp H
    obtain ⟨t233, A30, H⟩ := H
    replace H : (some t233) = some r := H
    have A3 := Aside0.mk A30
    clear A30
    obtain rfl := Option.some.inj H
    go_enter Try.func16, Try.ntmps16
    go_wp2_with (first | (go_at_call 33; (with_reducible refine (contains_great.calls _ _ l0  t233 _ ?side1 ?side2 A3.out).mono ?_); (case side1 => repeat (first | exact HR0.out | (with_reducible refine Kd.C_alloc ?_ _) | (with_reducible refine Kd.C_drewN ?_ _) | (with_reducible refine Kd.C_drew ?_))); (case side2 => exact HC0.out); rintro e w' ⟨rfl, ⟨nd, rfl⟩⟩))
    go_ret
    exact ⟨by first | rfl | (simp; done) | (simp [*]; done), by repeat (first | exact Drawn0.refl _ | apply Drawn0.step)⟩

/-! ### lookoutref08_Check: function 18 -/
mutual
def lookoutref08_Check.l0 : Nat → List Int → Int → Option (Int)
  | 0, _, _ => none
  | k + 1, x0, x3 => if x3 < (x0.length : Int) then (if 0 ≤ x3 then (if (rd x0 x3) < 0 then (lookoutref08_Check.j1 k x0 x3 true) else (lookoutref08_Check.j1 k x0 x3 (decide ((rd x0 x3) > 1152921504606846976)))) else (none)) else (some 0)
def lookoutref08_Check.j1 : Nat → List Int → Int → Bool → Option (Int)
  | 0, _, _, _ => none
  | k + 1, x0, x3, x21 => if x21 = true then (some 2) else (if x3 > 0 then (if 0 ≤ x3 then (if x3 < (x0.length : Int) then (if 0 ≤ (wrap64 (x3 - 1)) then (if (wrap64 (x3 - 1)) < (x0.length : Int) then (if (rd x0 x3) ≤ (rd x0 (wrap64 (x3 - 1))) then (some 9) else (lookoutref08_Check.l0 k x0 (wrap64 (x3 + 1)))) else (none)) else (none)) else (none)) else (none)) else (lookoutref08_Check.l0 k x0 (wrap64 (x3 + 1))))
end
def lookoutref08_Check.f (k : Nat) (l0 : List Int) : Option (Int) := lookoutref08_Check.l0 k l0 0
theorem lookoutref08_Check.mono_l : ∀ k, (∀ y0 y1, LeO (lookoutref08_Check.l0 k y0 y1) (lookoutref08_Check.l0 (k + 1) y0 y1)) ∧ (∀ y0 y1 y2, LeO (lookoutref08_Check.j1 k y0 y1 y2) (lookoutref08_Check.j1 (k + 1) y0 y1 y2))
  | 0 => ⟨fun _ _ r h => by simp [lookoutref08_Check.l0] at h, fun _ _ _ r h => by simp [lookoutref08_Check.j1] at h⟩
  | k + 1 => by
    obtain ⟨ih0, ih1⟩ := lookoutref08_Check.mono_l k
    refine ⟨?_, ?_⟩
    · intro y0 y1
      unfold lookoutref08_Check.l0
      repeat' first
      | (with_reducible exact ih0 _ _)
      | (with_reducible exact ih1 _ _ _)
      | (with_reducible exact LeO.refl _)
      | (with_reducible exact LeO.none _)
      | (with_reducible refine LeO.ite ?_ ?_)
      | (with_reducible refine LeO.bind ?_ (fun _ => ?_))
      | exact ih0 _ _
      | exact ih1 _ _ _
      | exact LeO.none _
      | refine LeO.ite ?_ ?_
      | refine LeO.bind ?_ (fun _ => ?_)
    · intro y0 y1 y2
      unfold lookoutref08_Check.j1
      repeat' first
      | (with_reducible exact ih0 _ _)
      | (with_reducible exact ih1 _ _ _)
      | (with_reducible exact LeO.refl _)
      | (with_reducible exact LeO.none _)
      | (with_reducible refine LeO.ite ?_ ?_)
      | (with_reducible refine LeO.bind ?_ (fun _ => ?_))
      | exact ih0 _ _
      | exact ih1 _ _ _
      | exact LeO.none _
      | refine LeO.ite ?_ ?_
      | refine LeO.bind ?_ (fun _ => ?_)
theorem lookoutref08_Check.mono : ∀ a0 k, LeO (lookoutref08_Check.f k a0) (lookoutref08_Check.f (k + 1) a0) := by
  intro a0 k
  obtain ⟨ih0, ih1⟩ := lookoutref08_Check.mono_l k
  unfold lookoutref08_Check.f
  repeat' first
      | (with_reducible exact ih0 _ _)
      | (with_reducible exact ih1 _ _ _)
      | (with_reducible exact LeO.refl _)
      | (with_reducible exact LeO.none _)
      | (with_reducible refine LeO.ite ?_ ?_)
      | (with_reducible refine LeO.bind ?_ (fun _ => ?_))
      | exact ih0 _ _
      | exact ih1 _ _ _
      | exact LeO.none _
      | refine LeO.ite ?_ ?_
      | refine LeO.bind ?_ (fun _ => ?_)
set_option maxHeartbeats 8000000 in
set_option maxRecDepth 100000 in
theorem lookoutref08_Check.calls (k : Nat) (A0 : Option Addr) (c0 : Nat) (l0 : List Int) (r : Int) (w : World) (hr0 : Kd.C (Kd.int .i64) w A0 l0.length l0) (hc0 : l0.length ≤ c0) (h : lookoutref08_Check.f k l0 = some r) :
    Calls Try.prog 18 #[.slice A0 l0.length c0] w fun e w' => e = .returned (.int .i64 r) ∧ Drawn0 w w' := by
  have HR0 := Aside0.mk hr0
  have HC0 := Aside0.mk hc0
  clear hr0 hc0
  have H : (lookoutref08_Check.l0 k l0 0) = some r := h
  clear h
  have H' := Aside0.mk H
  clear H
  go_enter Try.func18, Try.ntmps18
  go_wp2
  repeat (go_quiet (fail); try go_wp2)
  go_loopg [3] k (fun kq v3 w' => ∃ (x3_1 : Int), v3 = .int .i64 x3_1 ∧ Aside0 (lookoutref08_Check.l0 kq l0 x3_1 = some r) ∧ Aside0 (kq ≤ k) ∧ Drawn0 w w')
  case atStart => exact ⟨(0), (by first | rfl | (simp; done) | (simp [*]; done)), H', ⟨Nat.le_refl _⟩, by repeat (first | exact Drawn0.refl _ | apply Drawn0.step)⟩
  case round =>
    clear H'
    try clear c1
    obtain ⟨x3_1, rfl, HA, HK1, ⟨m1, rfl⟩⟩ := hrel
    cases gk with
    | zero => exact absurd HA.out (by simp [lookoutref08_Check.l0])
    | succ k1 =>
      have H := HA.out
      clear HA
      simp only [lookoutref08_Check.l0] at H
      by_cases c2 : x3_1 < (l0.length : Int)
      · rw [if_pos c2] at H
        have c2b0 : decide (x3_1 < (l0.length : Int)) = true := decide_eq_true c2
        clear c2
        have HC3 := Aside0.mk H
        clear H
        go_upto_region 4 with (fail)
        repeat (go_quiet (fail); go_upto_region 4 with (fail))
        go_cut [21] (fun v21 wc => ∃ (kq : Nat) (x21_2 : Bool), v21 = .bool x21_2 ∧ Aside0 (lookoutref08_Check.j1 kq l0 x3_1 x21_2 = some r) ∧ Aside0 (kq ≤ k1) ∧ Drawn0 w wc)
        case first =>
          have H := HC3.out
          clear HC3
          by_cases c4 : 0 ≤ x3_1
          · rw [if_pos c4] at H
            have c4b0 : decide (0 ≤ x3_1) = true := decide_eq_true c4
            clear c4
            (first | rw [c4b0] | (simp only [i64_w, i32_w]; rw [c4b0]) | skip)
            by_cases c5 : (rd l0 x3_1) < 0
            · rw [if_pos c5] at H
              have c5b0 : decide ((rd l0 x3_1) < 0) = true := decide_eq_true c5
              clear c5
              have H' := Aside0.mk H
              clear H
              have p234 : 0 ≤ (x3_1 : Int) := of_decide_eq_true (by first | (with_reducible assumption) | assumption)
              have q234 : x3_1 < (l0.length : Int) := of_decide_eq_true (by first | (with_reducible assumption) | assumption)
              obtain ⟨ad234, e234, hx234_0⟩ := Kd.at_int HR0.out x3_1 p234 q234
              cases e234
              replace p234 := eq_true p234
              replace q234 := eq_true q234
              go_wp2
              repeat (go_quiet (fail); try go_wp2)
              go_meet
              case rel => exact ⟨_, (true), (by first | rfl | (simp; done) | (simp [*]; done)), H', ⟨by have := HK1.out; first | omega | exact Nat.le_refl _⟩, by repeat (first | exact Drawn0.refl _ | apply Drawn0.step)⟩
            · rw [if_neg c5] at H
              have c5b0 : decide ((rd l0 x3_1) < 0) = false := decide_eq_false c5
              clear c5
              have H' := Aside0.mk H
              clear H
              have p234 : 0 ≤ (x3_1 : Int) := of_decide_eq_true (by first | (with_reducible assumption) | assumption)
              have q234 : x3_1 < (l0.length : Int) := of_decide_eq_true (by first | (with_reducible assumption) | assumption)
              obtain ⟨ad234, e234, hx234_0⟩ := Kd.at_int HR0.out x3_1 p234 q234
              cases e234
              replace p234 := eq_true p234
              replace q234 := eq_true q234
              have p235 : 0 ≤ (x3_1 : Int) := of_decide_eq_true (by first | (with_reducible assumption) | assumption)
              have q235 : x3_1 < (l0.length : Int) := of_decide_eq_true (by first | (with_reducible assumption) | assumption)
              obtain ⟨ad235, e235, hx235_0⟩ := Kd.at_int HR0.out x3_1 p235 q235
              obtain rfl : ad234 = ad235 := (by injection e235)
              replace p235 := eq_true p235
              replace q235 := eq_true q235
              go_wp2
              repeat (go_quiet (fail); try go_wp2)
              go_meet
              case rel => exact ⟨_, (decide ((rd l0 x3_1) > 1152921504606846976)), (by first | rfl | (simp; done) | (simp [*]; done)), H', ⟨by have := HK1.out; first | omega | exact Nat.le_refl _⟩, by repeat (first | exact Drawn0.refl _ | apply Drawn0.step)⟩
          · rw [if_neg c4] at H
            exact absurd H (by simp)
        case rest =>
          clear HC3
          try clear c1
          try clear c2
          try clear c2b0
          try clear p2
          try clear q2
          try clear hx2
          try clear c4
          try clear c4b0
          try clear c5
          try clear c5b0
          try clear hx234_0
          try clear hx235_0
          try clear p234
          try clear p235
          try clear q234
          try clear q235
          obtain ⟨kq, x21_2, rfl, HA, HJ2, ⟨mc2, rfl⟩⟩ := hcut
          cases kq with
          | zero => exact absurd HA.out (by simp [lookoutref08_Check.j1])
          | succ kj2 =>
            have H := HA.out
            clear HA
            simp only [lookoutref08_Check.j1] at H
            by_cases c6 : x21_2 = true
            · subst c6
              have H1 : (some 2) = some r := by rw [if_pos rfl] at H; exact H
              clear H
              have H := H1
              clear H1
              obtain rfl := Option.some.inj H
              go_wp2
              repeat (go_quiet (fail); try go_wp2)
              go_ret
              exact ⟨by first | rfl | (simp; done) | (simp [*]; done), by repeat (first | exact Drawn0.refl _ | apply Drawn0.step)⟩
            · replace c6 := Bool.eq_false_iff.mpr c6
              subst c6
              have H1 : (if x3_1 > 0 then (if 0 ≤ x3_1 then (if x3_1 < (l0.length : Int) then (if 0 ≤ (wrap64 (x3_1 - 1)) then (if (wrap64 (x3_1 - 1)) < (l0.length : Int) then (if (rd l0 x3_1) ≤ (rd l0 (wrap64 (x3_1 - 1))) then (some 9) else (lookoutref08_Check.l0 kj2 l0 (wrap64 (x3_1 + 1)))) else (none)) else (none)) else (none)) else (none)) else (lookoutref08_Check.l0 kj2 l0 (wrap64 (x3_1 + 1)))) = some r := by rw [if_neg (show ¬ (false = true) by decide)] at H; exact H
              clear H
              have H := H1
              clear H1
              by_cases c7 : x3_1 > 0
              · rw [if_pos c7] at H
                have c7b0 : decide (0 < x3_1) = true := decide_eq_true c7
                clear c7
                by_cases c8 : 0 ≤ x3_1
                · rw [if_pos c8] at H
                  have c8b0 : decide (0 ≤ x3_1) = true := decide_eq_true c8
                  clear c8
                  by_cases c9 : x3_1 < (l0.length : Int)
                  · rw [if_pos c9] at H
                    have c9b0 : decide (x3_1 < (l0.length : Int)) = true := decide_eq_true c9
                    clear c9
                    obtain ⟨ji10, hji10⟩ : ∃ j_ : Int, (wrap64 (x3_1 - 1)) = j_ := ⟨_, rfl⟩
                    replace H : (if 0 ≤ (ji10) then (if (ji10) < (l0.length : Int) then (if (rd l0 x3_1) ≤ (rd l0 (ji10)) then (some 9) else (lookoutref08_Check.l0 kj2 l0 (wrap64 (x3_1 + 1)))) else (none)) else (none)) = some r := by first | (rw [hji10] at H; exact H) | (simp only [hji10] at H ⊢; exact H)
                    have hji10w : (IntKind.i64.wrap (x3_1 - 1)) = ji10 := (i64_w _).trans hji10
                    by_cases c11 : 0 ≤ (ji10)
                    · rw [if_pos c11] at H
                      have c11b0 : decide (0 ≤ (ji10)) = true := decide_eq_true c11
                      clear c11
                      by_cases c12 : (ji10) < (l0.length : Int)
                      · rw [if_pos c12] at H
                        have c12b0 : decide ((ji10) < (l0.length : Int)) = true := decide_eq_true c12
                        clear c12
                        by_cases c13 : (rd l0 x3_1) ≤ (rd l0 (ji10))
                        · rw [if_pos c13] at H
                          have c13b0 : decide ((rd l0 x3_1) ≤ (rd l0 (ji10))) = true := decide_eq_true c13
                          clear c13
                          obtain rfl := Option.some.inj H
                          have p236 : 0 ≤ (x3_1 : Int) := of_decide_eq_true (by first | (with_reducible assumption) | assumption)
                          have q236 : x3_1 < (l0.length : Int) := of_decide_eq_true (by first | (with_reducible assumption) | assumption)
                          obtain ⟨ad236, e236, hx236_0⟩ := Kd.at_int HR0.out x3_1 p236 q236
                          cases e236
                          replace p236 := eq_true p236
                          replace q236 := eq_true q236
                          have p237 : 0 ≤ ((ji10) : Int) := of_decide_eq_true (by first | (with_reducible assumption) | assumption)
                          have q237 : (ji10) < (l0.length : Int) := of_decide_eq_true (by first | (with_reducible assumption) | assumption)
                          obtain ⟨ad237, e237, hx237_0⟩ := Kd.at_int HR0.out (ji10) p237 q237
                          obtain rfl : ad236 = ad237 := (by injection e237)
                          replace p237 := eq_true p237
                          replace q237 := eq_true q237
                          go_wp2
                          repeat (go_quiet (fail); try go_wp2)
                          go_ret
                          exact ⟨by first | rfl | (simp; done) | (simp only [← hji10] <;> (first | rfl | simp)) | (simp [*]; done), by repeat (first | exact Drawn0.refl _ | apply Drawn0.step)⟩
                        · rw [if_neg c13] at H
                          have c13b0 : decide ((rd l0 x3_1) ≤ (rd l0 (ji10))) = false := decide_eq_false c13
                          clear c13
                          have H' := Aside0.mk H
                          clear H
                          have p236 : 0 ≤ (x3_1 : Int) := of_decide_eq_true (by first | (with_reducible assumption) | assumption)
                          have q236 : x3_1 < (l0.length : Int) := of_decide_eq_true (by first | (with_reducible assumption) | assumption)
                          obtain ⟨ad236, e236, hx236_0⟩ := Kd.at_int HR0.out x3_1 p236 q236
                          cases e236
                          replace p236 := eq_true p236
                          replace q236 := eq_true q236
                          have p237 : 0 ≤ ((ji10) : Int) := of_decide_eq_true (by first | (with_reducible assumption) | assumption)
                          have q237 : (ji10) < (l0.length : Int) := of_decide_eq_true (by first | (with_reducible assumption) | assumption)
                          obtain ⟨ad237, e237, hx237_0⟩ := Kd.at_int HR0.out (ji10) p237 q237
                          obtain rfl : ad236 = ad237 := (by injection e237)
                          replace p237 := eq_true p237
                          replace q237 := eq_true q237
                          go_wp2
                          repeat (go_quiet (fail); try go_wp2)
                          go_roundg kj2
                          case measure => have := HK1.out; have := HJ2.out; omega
                          case rel => exact ⟨(wrap64 (x3_1 + 1)), (by first | rfl | (simp; done) | (simp [*]; done)), H', ⟨by have := HK1.out; have := HJ2.out; omega⟩, by repeat (first | exact Drawn0.refl _ | apply Drawn0.step)⟩
                      · rw [if_neg c12] at H
                        exact absurd H (by simp)
                    · rw [if_neg c11] at H
                      exact absurd H (by simp)
                  · rw [if_neg c9] at H
                    exact absurd H (by simp)
                · rw [if_neg c8] at H
                  exact absurd H (by simp)
              · rw [if_neg c7] at H
                have c7b0 : decide (0 < x3_1) = false := decide_eq_false c7
                clear c7
                have H' := Aside0.mk H
                clear H
                go_wp2
                repeat (go_quiet (fail); try go_wp2)
                go_roundg kj2
                case measure => have := HK1.out; have := HJ2.out; omega
                case rel => exact ⟨(wrap64 (x3_1 + 1)), (by first | rfl | (simp; done) | (simp [*]; done)), H', ⟨by have := HK1.out; have := HJ2.out; omega⟩, by repeat (first | exact Drawn0.refl _ | apply Drawn0.step)⟩
      · rw [if_neg c2] at H
        have c2b0 : decide (x3_1 < (l0.length : Int)) = false := decide_eq_false c2
        clear c2
        obtain rfl := Option.some.inj H
        go_wp2
        repeat (go_quiet (fail); try go_wp2)
        go_ret
        exact ⟨by first | rfl | (simp; done) | (simp [*]; done), by repeat (first | exact Drawn0.refl _ | apply Drawn0.step)⟩

/-! ### lookoutref08_Has: function 43 -/
def lookoutref08_Has.l0 : Nat → List Int → Int → Int → Option (Bool)
  | 0, _, _, _ => none
  | k + 1, x0, x1, x5 => if x5 < (x0.length : Int) then (if 0 ≤ x5 then (if (rd x0 x5) = x1 then (some true) else (lookoutref08_Has.l0 k x0 x1 (wrap64 (x5 + 1)))) else (none)) else (some false)
def lookoutref08_Has.f (k : Nat) (l0 : List Int) (a1 : Int) : Option (Bool) := lookoutref08_Has.l0 k l0 a1 0
theorem lookoutref08_Has.mono_l : ∀ k, (∀ y0 y1 y2, LeO (lookoutref08_Has.l0 k y0 y1 y2) (lookoutref08_Has.l0 (k + 1) y0 y1 y2))
  | 0 => fun _ _ _ r h => by simp [lookoutref08_Has.l0] at h
  | k + 1 => by
    have ih0 := lookoutref08_Has.mono_l k
    · intro y0 y1 y2
      unfold lookoutref08_Has.l0
      repeat' first
      | (with_reducible exact ih0 _ _ _)
      | (with_reducible exact LeO.refl _)
      | (with_reducible exact LeO.none _)
      | (with_reducible refine LeO.ite ?_ ?_)
      | (with_reducible refine LeO.bind ?_ (fun _ => ?_))
      | exact ih0 _ _ _
      | exact LeO.none _
      | refine LeO.ite ?_ ?_
      | refine LeO.bind ?_ (fun _ => ?_)
theorem lookoutref08_Has.mono : ∀ a0 a1 k, LeO (lookoutref08_Has.f k a0 a1) (lookoutref08_Has.f (k + 1) a0 a1) := by
  intro a0 a1 k
  have ih0 := lookoutref08_Has.mono_l k
  unfold lookoutref08_Has.f
  repeat' first
      | (with_reducible exact ih0 _ _ _)
      | (with_reducible exact LeO.refl _)
      | (with_reducible exact LeO.none _)
      | (with_reducible refine LeO.ite ?_ ?_)
      | (with_reducible refine LeO.bind ?_ (fun _ => ?_))
      | exact ih0 _ _ _
      | exact LeO.none _
      | refine LeO.ite ?_ ?_
      | refine LeO.bind ?_ (fun _ => ?_)
set_option maxHeartbeats 8000000 in
set_option maxRecDepth 100000 in
theorem lookoutref08_Has.calls (k : Nat) (A0 : Option Addr) (c0 : Nat) (l0 : List Int) (a1 : Int) (r : Bool) (w : World) (hr0 : Kd.C (Kd.int .i64) w A0 l0.length l0) (hc0 : l0.length ≤ c0) (h : lookoutref08_Has.f k l0 a1 = some r) :
    Calls Try.prog 43 #[.slice A0 l0.length c0, .int .i64 a1] w fun e w' => e = .returned (.bool r) ∧ Drawn0 w w' := by
  have HR0 := Aside0.mk hr0
  have HC0 := Aside0.mk hc0
  clear hr0 hc0
  have H : (lookoutref08_Has.l0 k l0 a1 0) = some r := h
  clear h
  have H' := Aside0.mk H
  clear H
  go_enter Try.func43, Try.ntmps43
  go_wp2
  go_loopg [5] k (fun kq v5 w' => ∃ (x5_1 : Int), v5 = .int .i64 x5_1 ∧ Aside0 (lookoutref08_Has.l0 kq l0 a1 x5_1 = some r) ∧ Aside0 (kq ≤ k) ∧ Drawn0 w w')
  case atStart => exact ⟨(0), (by first | rfl | (simp; done) | (simp [*]; done)), H', ⟨Nat.le_refl _⟩, by repeat (first | exact Drawn0.refl _ | apply Drawn0.step)⟩
  case round =>
    clear H'
    try clear p2
    obtain ⟨x5_1, rfl, HA, HK1, ⟨m1, rfl⟩⟩ := hrel
    cases gk with
    | zero => exact absurd HA.out (by simp [lookoutref08_Has.l0])
    | succ k1 =>
      have H := HA.out
      clear HA
      simp only [lookoutref08_Has.l0] at H
      by_cases c3 : x5_1 < (l0.length : Int)
      · rw [if_pos c3] at H
        have c3b0 : decide (x5_1 < (l0.length : Int)) = true := decide_eq_true c3
        clear c3
        by_cases c4 : 0 ≤ x5_1
        · rw [if_pos c4] at H
          have c4b0 : decide (0 ≤ x5_1) = true := decide_eq_true c4
          clear c4
          by_cases c5 : (rd l0 x5_1) = a1
          · rw [if_pos c5] at H
            have c5b0 : ((rd l0 x5_1) == a1) = true := beq_iff_eq.mpr c5
            have c5b1 : ((rd l0 x5_1) != a1) = false := bne_eq_false_iff_eq.mpr c5
            clear c5
            obtain rfl := Option.some.inj H
            have p238 : 0 ≤ (x5_1 : Int) := of_decide_eq_true (by first | (with_reducible assumption) | assumption)
            have q238 : x5_1 < (l0.length : Int) := of_decide_eq_true (by first | (with_reducible assumption) | assumption)
            obtain ⟨ad238, e238, hx238_0⟩ := Kd.at_int HR0.out x5_1 p238 q238
            cases e238
            replace p238 := eq_true p238
            replace q238 := eq_true q238
            go_wp2
            go_ret
            exact ⟨by first | rfl | (simp; done) | (simp [*]; done), by repeat (first | exact Drawn0.refl _ | apply Drawn0.step)⟩
          · rw [if_neg c5] at H
            have c5b0 : ((rd l0 x5_1) == a1) = false := beq_eq_false_iff_ne.mpr c5
            have c5b1 : ((rd l0 x5_1) != a1) = true := bne_iff_ne.mpr c5
            have H' := Aside0.mk H
            clear H
            have p238 : 0 ≤ (x5_1 : Int) := of_decide_eq_true (by first | (with_reducible assumption) | assumption)
            have q238 : x5_1 < (l0.length : Int) := of_decide_eq_true (by first | (with_reducible assumption) | assumption)
            obtain ⟨ad238, e238, hx238_0⟩ := Kd.at_int HR0.out x5_1 p238 q238
            cases e238
            replace p238 := eq_true p238
            replace q238 := eq_true q238
            go_wp2
            go_roundg k1
            case measure => have := HK1.out; omega
            case rel => exact ⟨(wrap64 (x5_1 + 1)), (by first | rfl | (simp; done) | (simp [*]; done)), H', ⟨by have := HK1.out; omega⟩, by repeat (first | exact Drawn0.refl _ | apply Drawn0.step)⟩
        · rw [if_neg c4] at H
          exact absurd H (by simp)
      · rw [if_neg c3] at H
        have c3b0 : decide (x5_1 < (l0.length : Int)) = false := decide_eq_false c3
        clear c3
        obtain rfl := Option.some.inj H
        go_wp2
        go_ret
        exact ⟨by first | rfl | (simp; done) | (simp [*]; done), by repeat (first | exact Drawn0.refl _ | apply Drawn0.step)⟩

end Go.Proofs.Ytdmdhpnlalekfaa.P
