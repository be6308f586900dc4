/- Printed by a program of this session: functions of the law's Go code as Lean functions, and that the Go code computes them. No condition beyond those in the statements. -/
import Derived.Test.YtbihedcjcmcjaaaPx0
import Derived.Test.YtbihedcjcmcjaaaPx12
namespace Go.Proofs.Ytbihedcjcmcjaaa.P
open Go.RowKit Go.Proofs.YtbihedcjcmcjaaaW.PrintWords Go.Proofs.YtbihedcjcmcjaaaW.PrintLast Go.Proofs.YtbihedcjcmcjaaaW.PrintMore Go.Proofs.Ytbihedcjcmcjaaa.Hand Go.Proofs.Ytbihedcjcmcjaaa.A Go.Proofs.Ytbihedcjcmcjaaa.C
attribute [local go_sem] max2_int min2_int max_two min_two max_three min_three max_four min_four   -- for this text's walks alone
set_option linter.unusedVariables false
set_option linter.unusedSimpArgs false

/-! ### lookoutlaw09_DeltacolRegular: function 3 -/
mutual
def lookoutlaw09_DeltacolRegular.j0 : Nat → Int → Int → Int → Bool → Option (Bool)
  | 0, _, _, _, _ => none
  | k + 1, x0, x1, x2, x31 => if x31 = true then ((lookoutlaw09_awake.f k).bind fun t125 => (some t125)) else (lookoutlaw09_DeltacolRegular.l0 k x0 x1 ([] : List Int) ([] : List Int) (Int.tmod (wrap64 (x2)) 501) 0)
def lookoutlaw09_DeltacolRegular.l0 : Nat → Int → Int → List Int → List Int → Int → Int → Option (Bool)
  | 0, _, _, _, _, _, _ => none
  | k + 1, x0, x1, x7, x8, x35, x36 => if x36 < x35 then (if x7.length < 17592186044416 then (if x8.length < 17592186044416 then (lookoutlaw09_DeltacolRegular.l0 k x0 x1 (x7 ++ [wrap64 (x0 + (wrap64 (x36 * x1)))]) (x8 ++ [x0]) x35 (wrap64 (x36 + 1))) else (none)) else (none)) else ((varint_AppendSigned.f k (⟨#[]⟩ : ByteArray) x0).bind fun bt132 => ((varint_AppendSigned.f k (⟨#[]⟩ : ByteArray) x1).bind fun bt134 => ((deltacol_EncodeTimes.f k x7).bind fun bt136 => ((deltacol_EncodeValues.f k x8).bind fun bt138 => (if bt132.2 = 0 then (if bt134.2 = 0 then (if bt136.2 = 0 then (if bt138.2 = 0 then (if (bt136.1.size : Int) ≤ (wrap64 ((wrap64 ((bt132.1.size : Int) + (bt134.1.size : Int))) + 18)) then (if (bt138.1.size : Int) ≤ (wrap64 ((bt132.1.size : Int) + 18)) then (if bt136.1.toList = ([] : List UInt8) then (none) else ((lookoutlaw09_awake.f k).bind fun t140 => (some t140))) else (none)) else (none)) else (none)) else (none)) else (none)) else (none))))))
end
def lookoutlaw09_DeltacolRegular.f (k : Nat) (a0 : Int) (a1 : Int) (a2 : Int) : Option (Bool) := if a0 < 1 then (lookoutlaw09_DeltacolRegular.j0 k a0 a1 a2 true) else (if a0 > 1073741824 then (lookoutlaw09_DeltacolRegular.j0 k a0 a1 a2 true) else (if a1 < 1 then (lookoutlaw09_DeltacolRegular.j0 k a0 a1 a2 true) else (lookoutlaw09_DeltacolRegular.j0 k a0 a1 a2 (decide (a1 > 1048576)))))
theorem lookoutlaw09_DeltacolRegular.mono_l : ∀ k, (∀ y0 y1 y2 y3, LeO (lookoutlaw09_DeltacolRegular.j0 k y0 y1 y2 y3) (lookoutlaw09_DeltacolRegular.j0 (k + 1) y0 y1 y2 y3)) ∧ (∀ y0 y1 y2 y3 y4 y5, LeO (lookoutlaw09_DeltacolRegular.l0 k y0 y1 y2 y3 y4 y5) (lookoutlaw09_DeltacolRegular.l0 (k + 1) y0 y1 y2 y3 y4 y5))
  | 0 => ⟨fun _ _ _ _ r h => by simp [lookoutlaw09_DeltacolRegular.j0] at h, fun _ _ _ _ _ _ r h => by simp [lookoutlaw09_DeltacolRegular.l0] at h⟩
  | k + 1 => by
    obtain ⟨ih0, ih1⟩ := lookoutlaw09_DeltacolRegular.mono_l k
    refine ⟨?_, ?_⟩
    · intro y0 y1 y2 y3
      unfold lookoutlaw09_DeltacolRegular.j0
      repeat' first
      | (with_reducible exact ih0 _ _ _ _)
      | (with_reducible exact ih1 _ _ _ _ _ _)
      | (with_reducible exact deltacol_EncodeTimes.mono _ _)
      | (with_reducible exact deltacol_EncodeValues.mono _ _)
      | (with_reducible exact lookoutlaw09_awake.mono _)
      | (with_reducible exact varint_AppendSigned.mono _ _ _)
      | (with_reducible exact LeO.refl _)
      | (with_reducible exact LeO.none _)
      | (with_reducible refine LeO.ite ?_ ?_)
      | (with_reducible refine LeO.bind ?_ (fun _ => ?_))
      | exact ih0 _ _ _ _
      | exact ih1 _ _ _ _ _ _
      | exact deltacol_EncodeTimes.mono _ _
      | exact deltacol_EncodeValues.mono _ _
      | exact lookoutlaw09_awake.mono _
      | exact varint_AppendSigned.mono _ _ _
      | exact LeO.none _
      | refine LeO.ite ?_ ?_
      | refine LeO.bind ?_ (fun _ => ?_)
    · intro y0 y1 y2 y3 y4 y5
      unfold lookoutlaw09_DeltacolRegular.l0
      repeat' first
      | (with_reducible exact ih0 _ _ _ _)
      | (with_reducible exact ih1 _ _ _ _ _ _)
      | (with_reducible exact deltacol_EncodeTimes.mono _ _)
      | (with_reducible exact deltacol_EncodeValues.mono _ _)
      | (with_reducible exact lookoutlaw09_awake.mono _)
      | (with_reducible exact varint_AppendSigned.mono _ _ _)
      | (with_reducible exact LeO.refl _)
      | (with_reducible exact LeO.none _)
      | (with_reducible refine LeO.ite ?_ ?_)
      | (with_reducible refine LeO.bind ?_ (fun _ => ?_))
      | exact ih0 _ _ _ _
      | exact ih1 _ _ _ _ _ _
      | exact deltacol_EncodeTimes.mono _ _
      | exact deltacol_EncodeValues.mono _ _
      | exact lookoutlaw09_awake.mono _
      | exact varint_AppendSigned.mono _ _ _
      | exact LeO.none _
      | refine LeO.ite ?_ ?_
      | refine LeO.bind ?_ (fun _ => ?_)
theorem lookoutlaw09_DeltacolRegular.mono : ∀ a0 a1 a2 k, LeO (lookoutlaw09_DeltacolRegular.f k a0 a1 a2) (lookoutlaw09_DeltacolRegular.f (k + 1) a0 a1 a2) := by
  intro a0 a1 a2 k
  obtain ⟨ih0, ih1⟩ := lookoutlaw09_DeltacolRegular.mono_l k
  unfold lookoutlaw09_DeltacolRegular.f
  repeat' first
      | (with_reducible exact ih0 _ _ _ _)
      | (with_reducible exact ih1 _ _ _ _ _ _)
      | (with_reducible exact deltacol_EncodeTimes.mono _ _)
      | (with_reducible exact deltacol_EncodeValues.mono _ _)
      | (with_reducible exact lookoutlaw09_awake.mono _)
      | (with_reducible exact varint_AppendSigned.mono _ _ _)
      | (with_reducible exact LeO.refl _)
      | (with_reducible exact LeO.none _)
      | (with_reducible refine LeO.ite ?_ ?_)
      | (with_reducible refine LeO.bind ?_ (fun _ => ?_))
      | exact ih0 _ _ _ _
      | exact ih1 _ _ _ _ _ _
      | exact deltacol_EncodeTimes.mono _ _
      | exact deltacol_EncodeValues.mono _ _
      | exact lookoutlaw09_awake.mono _
      | exact varint_AppendSigned.mono _ _ _
      | exact LeO.none _
      | refine LeO.ite ?_ ?_
      | refine LeO.bind ?_ (fun _ => ?_)
set_option maxHeartbeats 8000000 in
set_option maxRecDepth 100000 in
theorem lookoutlaw09_DeltacolRegular.calls (k : Nat) (a0 : Int) (a1 : Int) (a2 : Int) (r : Bool) (w : World) (h : lookoutlaw09_DeltacolRegular.f k a0 a1 a2 = some r) :
    Calls Try.prog 3 #[.int .i64 a0, .int .i64 a1, .int .u16 a2] w fun e w' => e = .returned (.bool r) ∧ Below w.heap.size w w' := by
  have HB := Aside0.mk (Below.refl w.heap.size w)
  have H : (if a0 < 1 then (lookoutlaw09_DeltacolRegular.j0 k a0 a1 a2 true) else (if a0 > 1073741824 then (lookoutlaw09_DeltacolRegular.j0 k a0 a1 a2 true) else (if a1 < 1 then (lookoutlaw09_DeltacolRegular.j0 k a0 a1 a2 true) else (lookoutlaw09_DeltacolRegular.j0 k a0 a1 a2 (decide (a1 > 1048576)))))) = some r := h
  clear h
  have HC4 := Aside0.mk H
  clear H
  go_enter Try.func3, Try.ntmps3
  go_upto_region 1 with (fail)
  go_cut [31] (fun v31 wc => ∃ (kq : Nat) (x31_3 : Bool), v31 = .bool x31_3 ∧ Aside0 (lookoutlaw09_DeltacolRegular.j0 kq a0 a1 a2 x31_3 = some r) ∧ Aside0 (kq ≤ k) ∧ Aside0 (Below w.heap.size w wc))
  case first =>
    have H := HC4.out
    clear HC4
    by_cases c5 : a0 < 1
    · rw [if_pos c5] at H
      have c5b0 : decide (a0 < 1) = true := decide_eq_true c5
      clear c5
      (first | rw [c5b0] | (simp only [i64_w, i32_w]; rw [c5b0]) | rw [c5b1] | (simp only [i64_w, i32_w]; rw [c5b1]) | skip)
      have H' := Aside0.mk H
      clear H
      go_wp2
      go_meet
      case rel => exact ⟨_, (true), (by first | rfl | (simp; done) | (simp [*]; done)), H', ⟨by first | omega | exact Nat.le_refl _⟩, ⟨by repeat (first | (with_reducible first | exact HB.out | apply below_alloc | apply pw_below_drewN | apply below_drew1) | exact HB.out)⟩⟩
    · rw [if_neg c5] at H
      have c5b0 : decide (a0 < 1) = false := decide_eq_false c5
      clear c5
      (first | rw [c5b0] | (simp only [i64_w, i32_w]; rw [c5b0]) | rw [c5b1] | (simp only [i64_w, i32_w]; rw [c5b1]) | skip)
      by_cases c6 : a0 > 1073741824
      · rw [if_pos c6] at H
        have c6b0 : decide (1073741824 < a0) = true := decide_eq_true c6
        clear c6
        have H' := Aside0.mk H
        clear H
        go_wp2
        go_meet
        case rel => exact ⟨_, (true), (by first | rfl | (simp; done) | (simp [*]; done)), H', ⟨by first | omega | exact Nat.le_refl _⟩, ⟨by repeat (first | (with_reducible first | exact HB.out | apply below_alloc | apply pw_below_drewN | apply below_drew1) | exact HB.out)⟩⟩
      · rw [if_neg c6] at H
        have c6b0 : decide (1073741824 < a0) = false := decide_eq_false c6
        clear c6
        by_cases c7 : a1 < 1
        · rw [if_pos c7] at H
          have c7b0 : decide (a1 < 1) = true := decide_eq_true c7
          clear c7
          have H' := Aside0.mk H
          clear H
          go_wp2
          go_meet
          case rel => exact ⟨_, (true), (by first | rfl | (simp; done) | (simp [*]; done)), H', ⟨by first | omega | exact Nat.le_refl _⟩, ⟨by repeat (first | (with_reducible first | exact HB.out | apply below_alloc | apply pw_below_drewN | apply below_drew1) | exact HB.out)⟩⟩
        · rw [if_neg c7] at H
          have c7b0 : decide (a1 < 1) = false := decide_eq_false c7
          clear c7
          have H' := Aside0.mk H
          clear H
          go_wp2
          go_meet
          case rel => exact ⟨_, (decide (a1 > 1048576)), (by first | rfl | (simp; done) | (simp [*]; done)), H', ⟨by first | omega | exact Nat.le_refl _⟩, ⟨by repeat (first | (with_reducible first | exact HB.out | apply below_alloc | apply pw_below_drewN | apply below_drew1) | exact HB.out)⟩⟩
  case rest =>
    clear HC4
    try clear p2
    try clear c3
    try clear c5
    try clear c5b0
    try clear c5b1
    try clear c6
    try clear c6b0
    try clear c7
    try clear c7b0
    obtain ⟨kq, x31_3, rfl, HA, HJ3, HB⟩ := hcut
    cases kq with
    | zero => exact absurd HA.out (by simp [lookoutlaw09_DeltacolRegular.j0])
    | succ kj3 =>
      have H := HA.out
      clear HA
      simp only [lookoutlaw09_DeltacolRegular.j0] at H
      by_cases c8 : x31_3 = true
      · subst c8
        have H1 : ((lookoutlaw09_awake.f kj3).bind fun t125 => (some t125)) = some r := by rw [if_pos rfl] at H; exact H
        clear H
        have H := H1
        clear H1
        replace H := Option.bind_eq_some_iff.mp H
        obtain ⟨t125, A90, H⟩ := H
        replace H : (some t125) = some r := H
        have A9 := Aside0.mk A90
        clear A90
        obtain rfl := Option.some.inj H
        go_wp2_with (first | ((with_reducible refine gate_callee (f := 6) rfl ?_); refine goesL_ (some 32) rfl rfl Try.func6 (by kernel_rfl) rfl #[] rfl (by (try simp only [List.map_toArray, List.map_cons, List.map_nil]); first | done | rfl | (simp only [List.length_drop, List.length_take]; rfl)) ?_; (with_reducible refine (lookoutlaw09_awake.calls kj3  t125 _ A9.out).mono ?_); rintro e w10 ⟨rfl, hb⟩; refine ⟨_, rfl, ?_⟩; have n0_ := Aside0.mk (below_step (by repeat (first | (with_reducible first | exact HB.out | apply below_alloc | apply pw_below_drewN | apply below_drew1) | exact HB.out)) hb); clear HB; have HB := n0_; clear n0_; (try clear hb); (try clear hb2); (try clear hk); (try clear hi)))
        go_ret
        exact ⟨by first | rfl | (simp [errW_none, errW_some] <;> rfl) | (simp [*, errW_none, errW_some] <;> rfl), by repeat (first | (with_reducible first | exact HB.out | apply below_alloc | apply pw_below_drewN | apply below_drew1) | exact HB.out)⟩
      · replace c8 := Bool.eq_false_iff.mpr c8
        subst c8
        have H1 : (lookoutlaw09_DeltacolRegular.l0 kj3 a0 a1 ([] : List Int) ([] : List Int) (Int.tmod (wrap64 (a2)) 501) 0) = some r := by rw [if_neg (show ¬ (false = true) by decide)] at H; exact H
        clear H
        have H := H1
        clear H1
        have H' := Aside0.mk H
        clear H
        go_wp2
        go_loopg [7, 8, 36] kj3 (fun kq v7 v8 v36 w' => ∃ (x7_2 : List Int) (x8_2 : List Int) (x36_2 : Int), v36 = .int .i64 x36_2 ∧ Aside0 (lookoutlaw09_DeltacolRegular.l0 kq a0 a1 x7_2 x8_2 (Int.tmod (wrap64 (a2)) 501) x36_2 = some r) ∧ Aside0 (kq ≤ kj3) ∧ Aside0 (Kd.R (Kd.int .i64) 3 w' w.heap.size (fun k_ => some k_ ≠ (v8 : Value).ownBlock) v7 x7_2) ∧ Aside0 (Kd.R (Kd.int .i64) 3 w' w.heap.size (fun k_ => some k_ ≠ (v7 : Value).ownBlock) v8 x8_2) ∧ Aside0 (Below w.heap.size w w'))
        case atStart => exact ⟨(([] : List Int)), (([] : List Int)), (0), (by first | rfl | (simp; done) | (simp [*]; done)), H', ⟨Nat.le_refl _⟩, ⟨by first | exact Kd.R_nil _ _ _ _ _ | exact Kd.N_nil _ _ _ _ _ | exact Kd.V_nil _ _ _ _ _ | exact Kd.Q_nil _ _ _ _ _ | exact Kd.S_nil _ _ _ _ _⟩, ⟨by first | exact Kd.R_nil _ _ _ _ _ | exact Kd.N_nil _ _ _ _ _ | exact Kd.V_nil _ _ _ _ _ | exact Kd.Q_nil _ _ _ _ _ | exact Kd.S_nil _ _ _ _ _⟩, ⟨by repeat (first | (with_reducible first | exact HB.out | apply below_alloc | apply pw_below_drewN | apply below_drew1) | exact HB.out)⟩⟩
        case round =>
          clear H'
          try clear p2
          try clear c3
          try clear c5
          try clear c5b0
          try clear c5b1
          try clear c6
          try clear c6b0
          try clear p6
          try clear c7
          try clear c7b0
          try clear c8
          try clear p2
          obtain ⟨x7_2, x8_2, x36_2, rfl, HA, HK2, HO_7, HO_8, HB⟩ := hrel
          cases gk with
          | zero => exact absurd HA.out (by simp [lookoutlaw09_DeltacolRegular.l0])
          | succ k2 =>
            have H := HA.out
            clear HA
            simp only [lookoutlaw09_DeltacolRegular.l0] at H
            by_cases c11 : x36_2 < (Int.tmod (wrap64 (a2)) 501)
            · rw [if_pos c11] at H
              have c11b0 : decide (x36_2 < (Int.tmod (wrap64 (a2)) 501)) = true := decide_eq_true c11
              clear c11
              by_cases c12 : x7_2.length < 17592186044416
              · rw [if_pos c12] at H
                have LMc12 := Aside0.mk c12
                clear c12
                obtain ⟨y126, hy126⟩ : ∃ y_ : List Int, y_ = (x7_2 ++ [wrap64 (a0 + (wrap64 (x36_2 * a1)))]) := ⟨_, rfl⟩
                replace H : (if x8_2.length < 17592186044416 then (lookoutlaw09_DeltacolRegular.l0 k2 a0 a1 y126 (x8_2 ++ [a0]) (Int.tmod (wrap64 (a2)) 501) (wrap64 (x36_2 + 1))) else (none)) = some r := by first | (rw [hy126]; with_reducible exact H) | (have H2_ := (Option.bind_some _ _).symm.trans H; rw [hy126]; with_reducible exact H2_) | (have H2_ := (Option.bind_some _ _).symm.trans H; with_reducible exact H2_) | with_reducible exact H | (rw [hy126]; exact H) | exact H
                have Ny126 := Aside0.mk hy126
                clear hy126
                by_cases c13 : x8_2.length < 17592186044416
                · rw [if_pos c13] at H
                  have LMc13 := Aside0.mk c13
                  clear c13
                  obtain ⟨y129, hy129⟩ : ∃ y_ : List Int, y_ = (x8_2 ++ [a0]) := ⟨_, rfl⟩
                  replace H : (lookoutlaw09_DeltacolRegular.l0 k2 a0 a1 y126 y129 (Int.tmod (wrap64 (a2)) 501) (wrap64 (x36_2 + 1))) = some r := by first | (rw [hy129]; with_reducible exact H) | (have H2_ := (Option.bind_some _ _).symm.trans H; rw [hy129]; with_reducible exact H2_) | (have H2_ := (Option.bind_some _ _).symm.trans H; with_reducible exact H2_) | with_reducible exact H | (rw [hy129]; exact H) | exact H
                  have Ny129 := Aside0.mk hy129
                  clear hy129
                  have H' := Aside0.mk H
                  clear H
                  go_wp2_with (first | ((with_reducible refine gate_builtin (b := .append) (xs := #[.tmp 39, .tmp 45]) rfl ?_); (try (refine gate_guard (by rfl) ?_; dsimp only)); at_builtin; refine Kd.R_append (Kd.int .i64) (w0 := w) w.heap.size rfl (.tmp 39) (.tmp 45) 24 3 (.int .i64 0) 8 rfl Try.underlying24 info3 rfl (by decide) (by omega) u7 x7_2 (wrap64 (a0 + (wrap64 (x36_2 * a1)))) [.int .i64 (wrap64 (a0 + (wrap64 (x36_2 * a1))))] (fun k_ => some k_ ≠ (u8 : Value).ownBlock) (fun _ => False) rfl rfl ?aP (fun _ hk => hk.elim) ?aF ?aO ?aB ?aS ?aL ?_; (case aP => exact rfl); (case aB => exact (by repeat (first | (with_reducible first | exact HB.out | apply below_alloc | apply pw_below_drewN | apply below_drew1) | exact HB.out))); (case aF => exact (fun k_ hk => Kd.fresh' (Kd.R_lt (by (with_reducible repeat (first | apply Kd.R_alloc | apply Kd.R_drewN | apply Kd.R_drew)); exact HO_8.out)) k_ hk)); (case aO => exact (by (with_reducible repeat (first | apply Kd.R_alloc | apply Kd.R_drewN | apply Kd.R_drew)); exact HO_7.out)); (case aS => exact (below_size (by repeat (first | (with_reducible first | exact HB.out | apply below_alloc | apply pw_below_drewN | apply below_drew1) | exact HB.out)))); (case aL => have := LMc12.out; omega); intro v127 w14 ho hb hg hat; rw [← Ny126.out] at ho; have n0_ := Aside0.mk (Kd.R_after (ok := (fun _ => True)) (by (with_reducible repeat (first | apply Kd.R_alloc | apply Kd.R_drewN | apply Kd.R_drew)); exact Kd.R_mono HO_8.out (fun _ hk => ⟨trivial, hk⟩)) hg hat); have n1_ := Aside0.mk (hb); have n2_ := Aside0.mk (ho); clear HO_8; clear HB; clear HO_7; have HO_8 := n0_; have HB := n1_; have HO128 := n2_; clear n0_ n1_ n2_; clear ho hb hg hat) | ((with_reducible refine gate_builtin (b := .append) (xs := #[.tmp 47, .tmp 49]) rfl ?_); (try (refine gate_guard (by rfl) ?_; dsimp only)); at_builtin; refine Kd.R_append (Kd.int .i64) (w0 := w) w.heap.size rfl (.tmp 47) (.tmp 49) 24 3 (.int .i64 0) 8 rfl Try.underlying24 info3 rfl (by decide) (by omega) u8 x8_2 a0 [.int .i64 a0] (fun k_ => some k_ ≠ (v127 : Value).ownBlock) (fun _ => False) rfl rfl ?aP (fun _ hk => hk.elim) ?aF ?aO ?aB ?aS ?aL ?_; (case aP => exact rfl); (case aB => exact (by repeat (first | (with_reducible first | exact HB.out | apply below_alloc | apply pw_below_drewN | apply below_drew1) | exact HB.out))); (case aF => exact (fun k_ hk => Kd.fresh' (Kd.R_lt (by (with_reducible repeat (first | apply Kd.R_alloc | apply Kd.R_drewN | apply Kd.R_drew)); exact HO128.out)) k_ hk)); (case aO => exact (by (with_reducible repeat (first | apply Kd.R_alloc | apply Kd.R_drewN | apply Kd.R_drew)); exact Kd.R_mono HO_8.out (fun _ hk => hk.2))); (case aS => exact (below_size (by repeat (first | (with_reducible first | exact HB.out | apply below_alloc | apply pw_below_drewN | apply below_drew1) | exact HB.out)))); (case aL => have := LMc13.out; omega); intro v130 w15 ho hb hg hat; rw [← Ny129.out] at ho; have n0_ := Aside0.mk (Kd.R_after (ok := (fun _ => True)) (by (with_reducible repeat (first | apply Kd.R_alloc | apply Kd.R_drewN | apply Kd.R_drew)); exact Kd.R_mono HO128.out (fun _ hk => ⟨trivial, hk⟩)) hg hat); have n1_ := Aside0.mk (hb); have n2_ := Aside0.mk (ho); clear HO128; clear HB; clear HO_8; have HO128 := n0_; have HB := n1_; have HO131 := n2_; clear n0_ n1_ n2_; clear ho hb hg hat))
                  go_roundg k2
                  case measure => have := HJ3.out; have := HK2.out; omega
                  case rel => exact ⟨(y126), (y129), (wrap64 (x36_2 + 1)), (by first | rfl | (simp; done) | (simp [*]; done)), H', ⟨by have := HJ3.out; have := HK2.out; omega⟩, ⟨by (with_reducible repeat (first | apply Kd.R_alloc | apply Kd.R_drewN | apply Kd.R_drew)); exact Kd.R_mono HO128.out (fun _ hk => hk.2)⟩, ⟨by (with_reducible repeat (first | apply Kd.R_alloc | apply Kd.R_drewN | apply Kd.R_drew)); exact HO131.out⟩, ⟨by repeat (first | (with_reducible first | exact HB.out | apply below_alloc | apply pw_below_drewN | apply below_drew1) | exact HB.out)⟩⟩
                · rw [if_neg c13] at H
                  exact absurd H (by simp)
              · rw [if_neg c12] at H
                exact absurd H (by simp)
            · rw [if_neg c11] at H
              have c11b0 : decide (x36_2 < (Int.tmod (wrap64 (a2)) 501)) = false := decide_eq_false c11
              clear c11
              replace H := Option.bind_eq_some_iff.mp H
              obtain ⟨⟨t132, t133⟩, A160, H⟩ := H
              replace H : ((varint_AppendSigned.f k2 (⟨#[]⟩ : ByteArray) a1).bind fun bt134 => ((deltacol_EncodeTimes.f k2 x7_2).bind fun bt136 => ((deltacol_EncodeValues.f k2 x8_2).bind fun bt138 => (if t133 = 0 then (if bt134.2 = 0 then (if bt136.2 = 0 then (if bt138.2 = 0 then (if (bt136.1.size : Int) ≤ (wrap64 ((wrap64 ((t132.size : Int) + (bt134.1.size : Int))) + 18)) then (if (bt138.1.size : Int) ≤ (wrap64 ((t132.size : Int) + 18)) then (if bt136.1.toList = ([] : List UInt8) then (none) else ((lookoutlaw09_awake.f k2).bind fun t140 => (some t140))) else (none)) else (none)) else (none)) else (none)) else (none)) else (none))))) = some r := H
              have A16 := Aside0.mk A160
              clear A160
              replace H := Option.bind_eq_some_iff.mp H
              obtain ⟨⟨t134, t135⟩, A170, H⟩ := H
              replace H : ((deltacol_EncodeTimes.f k2 x7_2).bind fun bt136 => ((deltacol_EncodeValues.f k2 x8_2).bind fun bt138 => (if t133 = 0 then (if t135 = 0 then (if bt136.2 = 0 then (if bt138.2 = 0 then (if (bt136.1.size : Int) ≤ (wrap64 ((wrap64 ((t132.size : Int) + (t134.size : Int))) + 18)) then (if (bt138.1.size : Int) ≤ (wrap64 ((t132.size : Int) + 18)) then (if bt136.1.toList = ([] : List UInt8) then (none) else ((lookoutlaw09_awake.f k2).bind fun t140 => (some t140))) else (none)) else (none)) else (none)) else (none)) else (none)) else (none)))) = some r := H
              have A17 := Aside0.mk A170
              clear A170
              replace H := Option.bind_eq_some_iff.mp H
              obtain ⟨⟨t136, t137⟩, A180, H⟩ := H
              replace H : ((deltacol_EncodeValues.f k2 x8_2).bind fun bt138 => (if t133 = 0 then (if t135 = 0 then (if t137 = 0 then (if bt138.2 = 0 then (if (t136.size : Int) ≤ (wrap64 ((wrap64 ((t132.size : Int) + (t134.size : Int))) + 18)) then (if (bt138.1.size : Int) ≤ (wrap64 ((t132.size : Int) + 18)) then (if t136.toList = ([] : List UInt8) then (none) else ((lookoutlaw09_awake.f k2).bind fun t140 => (some t140))) else (none)) else (none)) else (none)) else (none)) else (none)) else (none))) = some r := H
              have A18 := Aside0.mk A180
              clear A180
              replace H := Option.bind_eq_some_iff.mp H
              obtain ⟨⟨t138, t139⟩, A190, H⟩ := H
              replace H : (if t133 = 0 then (if t135 = 0 then (if t137 = 0 then (if t139 = 0 then (if (t136.size : Int) ≤ (wrap64 ((wrap64 ((t132.size : Int) + (t134.size : Int))) + 18)) then (if (t138.size : Int) ≤ (wrap64 ((t132.size : Int) + 18)) then (if t136.toList = ([] : List UInt8) then (none) else ((lookoutlaw09_awake.f k2).bind fun t140 => (some t140))) else (none)) else (none)) else (none)) else (none)) else (none)) else (none)) = some r := H
              have A19 := Aside0.mk A190
              clear A190
              by_cases c20 : t133 = 0
              · rw [if_pos c20] at H
                have c20b0 : (t133 == 0) = true := beq_iff_eq.mpr c20
                have c20b1 : (t133 != 0) = false := bne_eq_false_iff_eq.mpr c20
                clear c20
                by_cases c21 : t135 = 0
                · rw [if_pos c21] at H
                  have c21b0 : (t135 == 0) = true := beq_iff_eq.mpr c21
                  have c21b1 : (t135 != 0) = false := bne_eq_false_iff_eq.mpr c21
                  clear c21
                  by_cases c22 : t137 = 0
                  · rw [if_pos c22] at H
                    have c22b0 : (t137 == 0) = true := beq_iff_eq.mpr c22
                    have c22b1 : (t137 != 0) = false := bne_eq_false_iff_eq.mpr c22
                    clear c22
                    by_cases c23 : t139 = 0
                    · rw [if_pos c23] at H
                      have c23b0 : (t139 == 0) = true := beq_iff_eq.mpr c23
                      have c23b1 : (t139 != 0) = false := bne_eq_false_iff_eq.mpr c23
                      clear c23
                      by_cases c24 : (t136.size : Int) ≤ (wrap64 ((wrap64 ((t132.size : Int) + (t134.size : Int))) + 18))
                      · rw [if_pos c24] at H
                        have c24b0 : decide ((t136.size : Int) ≤ (wrap64 ((wrap64 ((t132.size : Int) + (t134.size : Int))) + 18))) = true := decide_eq_true c24
                        clear c24
                        by_cases c25 : (t138.size : Int) ≤ (wrap64 ((t132.size : Int) + 18))
                        · rw [if_pos c25] at H
                          have c25b0 : decide ((t138.size : Int) ≤ (wrap64 ((t132.size : Int) + 18))) = true := decide_eq_true c25
                          clear c25
                          by_cases c26 : t136.toList = ([] : List UInt8)
                          · rw [if_pos c26] at H
                            exact absurd H (by simp)
                          · rw [if_neg c26] at H
                            have c26b0 : (t136.toList == ([] : List UInt8)) = false := beq_eq_false_iff_ne.mpr c26
                            have c26b1 : (t136.toList != ([] : List UInt8)) = true := bne_iff_ne.mpr c26
                            replace H := Option.bind_eq_some_iff.mp H
                            obtain ⟨t140, A270, H⟩ := H
                            replace H : (some t140) = some r := H
                            have A27 := Aside0.mk A270
                            clear A270
                            obtain rfl := Option.some.inj H
                            go_wp2_with (first | ((with_reducible refine gate_callee (f := 7) rfl ?_); refine goesL_ (some 54) rfl rfl Try.func7 (by kernel_rfl) rfl #[.string (⟨#[]⟩ : ByteArray), .int .i64 a0] rfl (by (try simp only [List.map_toArray, List.map_cons, List.map_nil]); first | done | rfl | (simp only [List.length_drop, List.length_take]; rfl)) ?_; (with_reducible refine (varint_AppendSigned.calls k2 (⟨#[]⟩ : ByteArray) a0 t132 t133 _ A16.out).mono ?_); rintro e w28 ⟨rfl, hb⟩; refine ⟨_, rfl, ?_⟩; have n0_ := Aside0.mk (Kd.R_below (by (with_reducible repeat (first | apply Kd.R_alloc | apply Kd.R_drewN | apply Kd.R_drew)); exact HO_7.out) hb); have n1_ := Aside0.mk (Kd.R_below (by (with_reducible repeat (first | apply Kd.R_alloc | apply Kd.R_drewN | apply Kd.R_drew)); exact HO_8.out) hb); have n2_ := Aside0.mk (below_step (by repeat (first | (with_reducible first | exact HB.out | apply below_alloc | apply pw_below_drewN | apply below_drew1) | exact HB.out)) hb); clear HO_7; clear HO_8; clear HB; have HO_7 := n0_; have HO_8 := n1_; have HB := n2_; clear n0_ n1_ n2_; (try clear hb); (try clear hb2); (try clear hk); (try clear hi)) | ((with_reducible refine gate_callee (f := 7) rfl ?_); refine goesL_ (some 59) rfl rfl Try.func7 (by kernel_rfl) rfl #[.string (⟨#[]⟩ : ByteArray), .int .i64 a1] rfl (by (try simp only [List.map_toArray, List.map_cons, List.map_nil]); first | done | rfl | (simp only [List.length_drop, List.length_take]; rfl)) ?_; (with_reducible refine (varint_AppendSigned.calls k2 (⟨#[]⟩ : ByteArray) a1 t134 t135 _ A17.out).mono ?_); rintro e w29 ⟨rfl, hb⟩; refine ⟨_, rfl, ?_⟩; have n0_ := Aside0.mk (Kd.R_below (by (with_reducible repeat (first | apply Kd.R_alloc | apply Kd.R_drewN | apply Kd.R_drew)); exact HO_7.out) hb); have n1_ := Aside0.mk (Kd.R_below (by (with_reducible repeat (first | apply Kd.R_alloc | apply Kd.R_drewN | apply Kd.R_drew)); exact HO_8.out) hb); have n2_ := Aside0.mk (below_step (by repeat (first | (with_reducible first | exact HB.out | apply below_alloc | apply pw_below_drewN | apply below_drew1) | exact HB.out)) hb); clear HO_7; clear HO_8; clear HB; have HO_7 := n0_; have HO_8 := n1_; have HB := n2_; clear n0_ n1_ n2_; (try clear hb); (try clear hb2); (try clear hk); (try clear hi); obtain ⟨Ao30, co30, eo30⟩ := Kd.R_slice HO_7.out; subst eo30) | ((with_reducible refine gate_callee (f := 8) rfl ?_); refine goesL_ (some 64) rfl rfl Try.func8 (by kernel_rfl) rfl #[.slice Ao30 x7_2.length co30] rfl (by (try simp only [List.map_toArray, List.map_cons, List.map_nil]); first | done | rfl | (simp only [List.length_drop, List.length_take]; rfl)) ?_; (with_reducible refine (deltacol_EncodeTimes.calls k2 _ _ x7_2 t136 t137 _ ?side1 ?side2 A18.out).mono ?_); (case side1 => repeat (first | exact (Kd.R_reads' HO_7.out).2.2 | (with_reducible refine Kd.C_alloc ?_ _) | (with_reducible refine Kd.C_drewN ?_ _) | (with_reducible refine Kd.C_drew ?_))); (case side2 => exact (Kd.R_reads' HO_7.out).2.1); rintro e w31 ⟨rfl, hb⟩; refine ⟨_, rfl, ?_⟩; have n0_ := Aside0.mk (Kd.R_below (by (with_reducible repeat (first | apply Kd.R_alloc | apply Kd.R_drewN | apply Kd.R_drew)); exact HO_7.out) hb); have n1_ := Aside0.mk (Kd.R_below (by (with_reducible repeat (first | apply Kd.R_alloc | apply Kd.R_drewN | apply Kd.R_drew)); exact HO_8.out) hb); have n2_ := Aside0.mk (below_step (by repeat (first | (with_reducible first | exact HB.out | apply below_alloc | apply pw_below_drewN | apply below_drew1) | exact HB.out)) hb); clear HO_7; clear HO_8; clear HB; have HO_7 := n0_; have HO_8 := n1_; have HB := n2_; clear n0_ n1_ n2_; (try clear hb); (try clear hb2); (try clear hk); (try clear hi); obtain ⟨Ao32, co32, eo32⟩ := Kd.R_slice HO_8.out; subst eo32) | ((with_reducible refine gate_callee (f := 9) rfl ?_); refine goesL_ (some 69) rfl rfl Try.func9 (by kernel_rfl) rfl #[.slice Ao32 x8_2.length co32] rfl (by (try simp only [List.map_toArray, List.map_cons, List.map_nil]); first | done | rfl | (simp only [List.length_drop, List.length_take]; rfl)) ?_; (with_reducible refine (deltacol_EncodeValues.calls k2 _ _ x8_2 t138 t139 _ ?side1 ?side2 A19.out).mono ?_); (case side1 => repeat (first | exact (Kd.R_reads' HO_8.out).2.2 | (with_reducible refine Kd.C_alloc ?_ _) | (with_reducible refine Kd.C_drewN ?_ _) | (with_reducible refine Kd.C_drew ?_))); (case side2 => exact (Kd.R_reads' HO_8.out).2.1); rintro e w33 ⟨rfl, hb⟩; refine ⟨_, rfl, ?_⟩; have n0_ := Aside0.mk (Kd.R_below (by (with_reducible repeat (first | apply Kd.R_alloc | apply Kd.R_drewN | apply Kd.R_drew)); exact HO_7.out) hb); have n1_ := Aside0.mk (Kd.R_below (by (with_reducible repeat (first | apply Kd.R_alloc | apply Kd.R_drewN | apply Kd.R_drew)); exact HO_8.out) hb); have n2_ := Aside0.mk (below_step (by repeat (first | (with_reducible first | exact HB.out | apply below_alloc | apply pw_below_drewN | apply below_drew1) | exact HB.out)) hb); clear HO_7; clear HO_8; clear HB; have HO_7 := n0_; have HO_8 := n1_; have HB := n2_; clear n0_ n1_ n2_; (try clear hb); (try clear hb2); (try clear hk); (try clear hi)) | (go_at_call 6; (with_reducible refine (lookoutlaw09_awake.calls k2  t140 _ A27.out).mono ?_); rintro e w34 ⟨rfl, hb⟩; have n0_ := Aside0.mk (Kd.R_below (by (with_reducible repeat (first | apply Kd.R_alloc | apply Kd.R_drewN | apply Kd.R_drew)); exact HO_7.out) hb); have n1_ := Aside0.mk (Kd.R_below (by (with_reducible repeat (first | apply Kd.R_alloc | apply Kd.R_drewN | apply Kd.R_drew)); exact HO_8.out) hb); have n2_ := Aside0.mk (below_step (by repeat (first | (with_reducible first | exact HB.out | apply below_alloc | apply pw_below_drewN | apply below_drew1) | exact HB.out)) hb); clear HO_7; clear HO_8; clear HB; have HO_7 := n0_; have HO_8 := n1_; have HB := n2_; clear n0_ n1_ n2_; (try clear hb); (try clear hb2); (try clear hk); (try clear hi)))
                            go_ret
                            exact ⟨by first | rfl | (simp [errW_none, errW_some] <;> rfl) | (simp [*, errW_none, errW_some] <;> rfl), by repeat (first | (with_reducible first | exact HB.out | apply below_alloc | apply pw_below_drewN | apply below_drew1) | exact HB.out)⟩
                        · rw [if_neg c25] at H
                          exact absurd H (by simp)
                      · rw [if_neg c24] at H
                        exact absurd H (by simp)
                    · rw [if_neg c23] at H
                      exact absurd H (by simp)
                  · rw [if_neg c22] at H
                    exact absurd H (by simp)
                · rw [if_neg c21] at H
                  exact absurd H (by simp)
              · rw [if_neg c20] at H
                exact absurd H (by simp)

/-- THE ONE PURE STATEMENT of lookoutlaw09_DeltacolRegular. -/
def lookoutlaw09_DeltacolRegular.Pure : Prop := ∀ (a0 : Int) (a1 : Int) (a2 : Int), (Lit.int .i64 a0).wf = true → (Lit.int .i64 a1).wf = true → (Lit.int .u16 a2).wf = true → ∃ k, lookoutlaw09_DeltacolRegular.f k a0 a1 a2 = some true

end Go.Proofs.Ytbihedcjcmcjaaa.P
