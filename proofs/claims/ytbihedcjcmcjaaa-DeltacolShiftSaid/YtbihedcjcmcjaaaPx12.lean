/- Printed by a program of this session: functions of the law's Go code as Lean functions, and that the Go code computes them. No condition beyond those in the statements. -/
import Derived.Test.YtbihedcjcmcjaaaPx0
namespace Go.Proofs.Ytbihedcjcmcjaaa.P
open Go.RowKit Go.Proofs.YtbihedcjcmcjaaaW.PrintWords Go.Proofs.YtbihedcjcmcjaaaW.PrintLast Go.Proofs.YtbihedcjcmcjaaaW.PrintMore Go.Proofs.Ytbihedcjcmcjaaa.Hand Go.Proofs.Ytbihedcjcmcjaaa.A Go.Proofs.Ytbihedcjcmcjaaa.C
attribute [local go_sem] max2_int min2_int max_two min_two max_three min_three max_four min_four   -- for this text's walks alone
set_option linter.unusedVariables false
set_option linter.unusedSimpArgs false

/-! ### lookoutlaw09_awake: function 6 -/
def lookoutlaw09_awake.f (k : Nat)  : Option (Bool) := (deltacol_EncodeTimes.f k (([10, 20, 30, 40, 51] : List Int))).bind fun bt110 => ((deltacol_EncodeValues.f k (([7, 7, 7, 5] : List Int))).bind fun bt115 => ((deltacol_DecodeTimes.f k (⟨#[5, 20, 20, 0, 2, 2, 1]⟩ : ByteArray)).bind fun bt117 => (if bt110.2 = 0 then (if bt110.1.toList = ([5, 20, 20, 0, 2, 2, 1] : List UInt8) then (if bt115.2 = 0 then (if bt115.1.toList = ([4, 14, 0, 2, 3, 1] : List UInt8) then (if bt117.2 = 0 then ((slices_Equal_int_int.f k bt117.1 (([10, 20, 30, 40, 51] : List Int))).bind fun t124 => (some t124)) else (none)) else (none)) else (none)) else (none)) else (none))))
theorem lookoutlaw09_awake.mono : ∀ k, LeO (lookoutlaw09_awake.f k ) (lookoutlaw09_awake.f (k + 1) ) := by
  intro  k
  unfold lookoutlaw09_awake.f
  repeat' first
      | (with_reducible exact deltacol_DecodeTimes.mono _ _)
      | (with_reducible exact deltacol_EncodeTimes.mono _ _)
      | (with_reducible exact deltacol_EncodeValues.mono _ _)
      | (with_reducible exact slices_Equal_int_int.mono _ _ _)
      | (with_reducible exact LeO.refl _)
      | (with_reducible exact LeO.none _)
      | (with_reducible refine LeO.ite ?_ ?_)
      | (with_reducible refine LeO.bind ?_ (fun _ => ?_))
      | exact deltacol_DecodeTimes.mono _ _
      | exact deltacol_EncodeTimes.mono _ _
      | exact deltacol_EncodeValues.mono _ _
      | exact slices_Equal_int_int.mono _ _ _
      | exact LeO.none _
      | refine LeO.ite ?_ ?_
      | refine LeO.bind ?_ (fun _ => ?_)
set_option maxHeartbeats 8000000 in
set_option maxRecDepth 100000 in
theorem lookoutlaw09_awake.calls (k : Nat)  (r : Bool) (w : World) (h : lookoutlaw09_awake.f k  = some r) :
    Calls Try.prog 6 #[] w fun e w' => e = .returned (.bool r) ∧ Below w.heap.size w w' := by
  have HB := Aside0.mk (Below.refl w.heap.size w)
  have H : ((deltacol_EncodeTimes.f k (([10, 20, 30, 40, 51] : List Int))).bind fun bt110 => ((deltacol_EncodeValues.f k (([7, 7, 7, 5] : List Int))).bind fun bt115 => ((deltacol_DecodeTimes.f k (⟨#[5, 20, 20, 0, 2, 2, 1]⟩ : ByteArray)).bind fun bt117 => (if bt110.2 = 0 then (if bt110.1.toList = ([5, 20, 20, 0, 2, 2, 1] : List UInt8) then (if bt115.2 = 0 then (if bt115.1.toList = ([4, 14, 0, 2, 3, 1] : List UInt8) then (if bt117.2 = 0 then ((slices_Equal_int_int.f k bt117.1 (([10, 20, 30, 40, 51] : List Int))).bind fun t124 => (some t124)) else (none)) else (none)) else (none)) else (none)) else (none))))) = some r := h
  clear h
  obtain ⟨y107, hy107⟩ : ∃ y_ : List Int, y_ = (([10, 20, 30, 40, 51] : List Int)) := ⟨_, rfl⟩
  replace H : ((deltacol_EncodeTimes.f k y107).bind fun bt110 => ((deltacol_EncodeValues.f k (([7, 7, 7, 5] : List Int))).bind fun bt115 => ((deltacol_DecodeTimes.f k (⟨#[5, 20, 20, 0, 2, 2, 1]⟩ : ByteArray)).bind fun bt117 => (if bt110.2 = 0 then (if bt110.1.toList = ([5, 20, 20, 0, 2, 2, 1] : List UInt8) then (if bt115.2 = 0 then (if bt115.1.toList = ([4, 14, 0, 2, 3, 1] : List UInt8) then (if bt117.2 = 0 then ((slices_Equal_int_int.f k bt117.1 (([10, 20, 30, 40, 51] : List Int))).bind fun t124 => (some t124)) else (none)) else (none)) else (none)) else (none)) else (none))))) = some r := by first | (rw [hy107]; with_reducible exact H) | (have H2_ := (Option.bind_some _ _).symm.trans H; rw [hy107]; with_reducible exact H2_) | (have H2_ := (Option.bind_some _ _).symm.trans H; with_reducible exact H2_) | with_reducible exact H | (rw [hy107]; exact H) | exact H
  have Ny107 := Aside0.mk hy107
  clear hy107
  replace H := Option.bind_eq_some_iff.mp H
  obtain ⟨⟨t110, t111⟩, A10, H⟩ := H
  replace H : ((deltacol_EncodeValues.f k (([7, 7, 7, 5] : List Int))).bind fun bt115 => ((deltacol_DecodeTimes.f k (⟨#[5, 20, 20, 0, 2, 2, 1]⟩ : ByteArray)).bind fun bt117 => (if t111 = 0 then (if t110.toList = ([5, 20, 20, 0, 2, 2, 1] : List UInt8) then (if bt115.2 = 0 then (if bt115.1.toList = ([4, 14, 0, 2, 3, 1] : List UInt8) then (if bt117.2 = 0 then ((slices_Equal_int_int.f k bt117.1 (([10, 20, 30, 40, 51] : List Int))).bind fun t124 => (some t124)) else (none)) else (none)) else (none)) else (none)) else (none)))) = some r := H
  have A1 := Aside0.mk A10
  clear A10
  obtain ⟨y112, hy112⟩ : ∃ y_ : List Int, y_ = (([7, 7, 7, 5] : List Int)) := ⟨_, rfl⟩
  replace H : ((deltacol_EncodeValues.f k y112).bind fun bt115 => ((deltacol_DecodeTimes.f k (⟨#[5, 20, 20, 0, 2, 2, 1]⟩ : ByteArray)).bind fun bt117 => (if t111 = 0 then (if t110.toList = ([5, 20, 20, 0, 2, 2, 1] : List UInt8) then (if bt115.2 = 0 then (if bt115.1.toList = ([4, 14, 0, 2, 3, 1] : List UInt8) then (if bt117.2 = 0 then ((slices_Equal_int_int.f k bt117.1 (([10, 20, 30, 40, 51] : List Int))).bind fun t124 => (some t124)) else (none)) else (none)) else (none)) else (none)) else (none)))) = some r := by first | (rw [hy112]; with_reducible exact H) | (have H2_ := (Option.bind_some _ _).symm.trans H; rw [hy112]; with_reducible exact H2_) | (have H2_ := (Option.bind_some _ _).symm.trans H; with_reducible exact H2_) | with_reducible exact H | (rw [hy112]; exact H) | exact H
  have Ny112 := Aside0.mk hy112
  clear hy112
  replace H := Option.bind_eq_some_iff.mp H
  obtain ⟨⟨t115, t116⟩, A20, H⟩ := H
  replace H : ((deltacol_DecodeTimes.f k (⟨#[5, 20, 20, 0, 2, 2, 1]⟩ : ByteArray)).bind fun bt117 => (if t111 = 0 then (if t110.toList = ([5, 20, 20, 0, 2, 2, 1] : List UInt8) then (if t116 = 0 then (if t115.toList = ([4, 14, 0, 2, 3, 1] : List UInt8) then (if bt117.2 = 0 then ((slices_Equal_int_int.f k bt117.1 (([10, 20, 30, 40, 51] : List Int))).bind fun t124 => (some t124)) else (none)) else (none)) else (none)) else (none)) else (none))) = some r := H
  have A2 := Aside0.mk A20
  clear A20
  replace H := Option.bind_eq_some_iff.mp H
  obtain ⟨⟨t117, t118⟩, A30, H⟩ := H
  replace H : (if t111 = 0 then (if t110.toList = ([5, 20, 20, 0, 2, 2, 1] : List UInt8) then (if t116 = 0 then (if t115.toList = ([4, 14, 0, 2, 3, 1] : List UInt8) then (if t118 = 0 then ((slices_Equal_int_int.f k t117 (([10, 20, 30, 40, 51] : List Int))).bind fun t124 => (some t124)) else (none)) else (none)) else (none)) else (none)) else (none)) = some r := H
  have A3 := Aside0.mk A30
  clear A30
  by_cases c4 : t111 = 0
  · rw [if_pos c4] at H
    have c4b0 : (t111 == 0) = true := beq_iff_eq.mpr c4
    have c4b1 : (t111 != 0) = false := bne_eq_false_iff_eq.mpr c4
    clear c4
    by_cases c5 : t110.toList = ([5, 20, 20, 0, 2, 2, 1] : List UInt8)
    · rw [if_pos c5] at H
      have c5b0 : (t110.toList == ([5, 20, 20, 0, 2, 2, 1] : List UInt8)) = true := beq_iff_eq.mpr c5
      have c5b1 : (t110.toList != ([5, 20, 20, 0, 2, 2, 1] : List UInt8)) = false := bne_eq_false_iff_eq.mpr c5
      clear c5
      by_cases c6 : t116 = 0
      · rw [if_pos c6] at H
        have c6b0 : (t116 == 0) = true := beq_iff_eq.mpr c6
        have c6b1 : (t116 != 0) = false := bne_eq_false_iff_eq.mpr c6
        clear c6
        by_cases c7 : t115.toList = ([4, 14, 0, 2, 3, 1] : List UInt8)
        · rw [if_pos c7] at H
          have c7b0 : (t115.toList == ([4, 14, 0, 2, 3, 1] : List UInt8)) = true := beq_iff_eq.mpr c7
          have c7b1 : (t115.toList != ([4, 14, 0, 2, 3, 1] : List UInt8)) = false := bne_eq_false_iff_eq.mpr c7
          clear c7
          by_cases c8 : t118 = 0
          · rw [if_pos c8] at H
            have c8b0 : (t118 == 0) = true := beq_iff_eq.mpr c8
            have c8b1 : (t118 != 0) = false := bne_eq_false_iff_eq.mpr c8
            clear c8
            obtain ⟨y121, hy121⟩ : ∃ y_ : List Int, y_ = (([10, 20, 30, 40, 51] : List Int)) := ⟨_, rfl⟩
            replace H : ((slices_Equal_int_int.f k t117 y121).bind fun t124 => (some t124)) = some r := by first | (rw [hy121]; with_reducible exact H) | (have H2_ := (Option.bind_some _ _).symm.trans H; rw [hy121]; with_reducible exact H2_) | (have H2_ := (Option.bind_some _ _).symm.trans H; with_reducible exact H2_) | with_reducible exact H | (rw [hy121]; exact H) | exact H
            have Ny121 := Aside0.mk hy121
            clear hy121
            replace H := Option.bind_eq_some_iff.mp H
            obtain ⟨t124, A90, H⟩ := H
            replace H : (some t124) = some r := H
            have A9 := Aside0.mk A90
            clear A90
            obtain rfl := Option.some.inj H
            go_enter Try.func6, Try.ntmps6
            go_wp2_with (first | ((with_reducible refine gate_dst (N := 8) rfl ?_); (try (refine gate_guard (by rfl) ?_; dsimp only)); refine Kd.R_lit (Kd.int .i64) _ 3 ?hg (N := 8) ?hd (xs := ([10, 20, 30, 40, 51] : List Int)) (inner := [.int .i64 10, .int .i64 20, .int .i64 30, .int .i64 40, .int .i64 51]) (ok := fun _ => True) (okp := fun _ => True) ?hr ?hp (fun _ hk => hk) trivial (Below.refl _ _) (Nat.le_refl _) (by simp) ?_; (case hd => rfl); (case hg => rfl); (case hr => first | (go_simp; done) | (go_simp; rfl)); (case hp => exact (Reps.one (show Kd.M (Kd.int .i64) _ _ _ 10 [.int .i64 10] from rfl) (Reps.one (show Kd.M (Kd.int .i64) _ _ _ 20 [.int .i64 20] from rfl) (Reps.one (show Kd.M (Kd.int .i64) _ _ _ 30 [.int .i64 30] from rfl) (Reps.one (show Kd.M (Kd.int .i64) _ _ _ 40 [.int .i64 40] from rfl) (Reps.one (show Kd.M (Kd.int .i64) _ _ _ 51 [.int .i64 51] from rfl) (Reps.none _ _))))))); intro v108 w10 ho11 hb hg_ hnew_; clear hg_ hnew_; (first | rw [← Ny107.out] at ho11 | (simp only [Int.reduceToNat] at ho11; rw [← Ny107.out] at ho11)); have n0_ := Aside0.mk (Kd.R_lower ho11 (below_size (by repeat (first | (with_reducible first | exact HB.out | apply below_alloc | apply pw_below_drewN | apply below_drew1) | exact HB.out)))); have n1_ := Aside0.mk (below_step (by repeat (first | (with_reducible first | exact HB.out | apply below_alloc | apply pw_below_drewN | apply below_drew1) | exact HB.out)) hb); clear HB; have HO109 := n0_; have HB := n1_; clear n0_ n1_; clear hb ho11; obtain ⟨Ao12, co12, eo12⟩ := Kd.R_slice HO109.out; subst eo12) | ((with_reducible refine gate_callee (f := 8) rfl ?_); refine goesL_ (some 9) rfl rfl Try.func8 (by kernel_rfl) rfl #[.slice Ao12 y107.length co12] rfl (by (try simp only [List.map_toArray, List.map_cons, List.map_nil]); first | done | rfl | (simp only [List.length_drop, List.length_take]; rfl)) ?_; (with_reducible refine (deltacol_EncodeTimes.calls k _ _ y107 t110 t111 _ ?side1 ?side2 A1.out).mono ?_); (case side1 => repeat (first | exact (Kd.R_reads' HO109.out).2.2 | (with_reducible refine Kd.C_alloc ?_ _) | (with_reducible refine Kd.C_drewN ?_ _) | (with_reducible refine Kd.C_drew ?_))); (case side2 => exact (Kd.R_reads' HO109.out).2.1); rintro e w13 ⟨rfl, hb⟩; refine ⟨_, rfl, ?_⟩; have n0_ := Aside0.mk (Kd.R_below (by (with_reducible repeat (first | apply Kd.R_alloc | apply Kd.R_drewN | apply Kd.R_drew)); exact HO109.out) hb); have n1_ := Aside0.mk (below_step (by repeat (first | (with_reducible first | exact HB.out | apply below_alloc | apply pw_below_drewN | apply below_drew1) | exact HB.out)) hb); clear HO109; clear HB; have HO109 := n0_; have HB := n1_; clear n0_ n1_; (try clear hb); (try clear hb2); (try clear hk); (try clear hi)) | ((with_reducible refine gate_dst (N := 13) rfl ?_); (try (refine gate_guard (by rfl) ?_; dsimp only)); refine Kd.R_lit (Kd.int .i64) _ 3 ?hg (N := 13) ?hd (xs := ([7, 7, 7, 5] : List Int)) (inner := [.int .i64 7, .int .i64 7, .int .i64 7, .int .i64 5]) (ok := fun _ => True) (okp := fun _ => True) ?hr ?hp (fun _ hk => hk) trivial (Below.refl _ _) (Nat.le_refl _) (by simp) ?_; (case hd => rfl); (case hg => rfl); (case hr => first | (go_simp; done) | (go_simp; rfl)); (case hp => exact (Reps.one (show Kd.M (Kd.int .i64) _ _ _ 7 [.int .i64 7] from rfl) (Reps.one (show Kd.M (Kd.int .i64) _ _ _ 7 [.int .i64 7] from rfl) (Reps.one (show Kd.M (Kd.int .i64) _ _ _ 7 [.int .i64 7] from rfl) (Reps.one (show Kd.M (Kd.int .i64) _ _ _ 5 [.int .i64 5] from rfl) (Reps.none _ _)))))); intro v113 w14 ho15 hb hg_ hnew_; clear hg_ hnew_; (first | rw [← Ny112.out] at ho15 | (simp only [Int.reduceToNat] at ho15; rw [← Ny112.out] at ho15)); have n0_ := Aside0.mk (Kd.R_elder' (by (with_reducible repeat (first | apply Kd.R_alloc | apply Kd.R_drewN | apply Kd.R_drew)); exact HO109.out) (Kd.R_base ho15) hb); have n1_ := Aside0.mk (Kd.R_lower (Kd.R_new' ho15 (Kd.R_lt (by (with_reducible repeat (first | apply Kd.R_alloc | apply Kd.R_drewN | apply Kd.R_drew)); exact HO109.out))) (below_size (by repeat (first | (with_reducible first | exact HB.out | apply below_alloc | apply pw_below_drewN | apply below_drew1) | exact HB.out)))); have n2_ := Aside0.mk (below_step (by repeat (first | (with_reducible first | exact HB.out | apply below_alloc | apply pw_below_drewN | apply below_drew1) | exact HB.out)) hb); clear HO109; clear HB; have HO109 := n0_; have HO114 := n1_; have HB := n2_; clear n0_ n1_ n2_; clear hb ho15; obtain ⟨Ao16, co16, eo16⟩ := Kd.R_slice HO114.out; subst eo16) | ((with_reducible refine gate_callee (f := 9) rfl ?_); refine goesL_ (some 14) rfl rfl Try.func9 (by kernel_rfl) rfl #[.slice Ao16 y112.length co16] rfl (by (try simp only [List.map_toArray, List.map_cons, List.map_nil]); first | done | rfl | (simp only [List.length_drop, List.length_take]; rfl)) ?_; (with_reducible refine (deltacol_EncodeValues.calls k _ _ y112 t115 t116 _ ?side1 ?side2 A2.out).mono ?_); (case side1 => repeat (first | exact (Kd.R_reads' HO114.out).2.2 | (with_reducible refine Kd.C_alloc ?_ _) | (with_reducible refine Kd.C_drewN ?_ _) | (with_reducible refine Kd.C_drew ?_))); (case side2 => exact (Kd.R_reads' HO114.out).2.1); rintro e w17 ⟨rfl, hb⟩; refine ⟨_, rfl, ?_⟩; have n0_ := Aside0.mk (Kd.R_below (by (with_reducible repeat (first | apply Kd.R_alloc | apply Kd.R_drewN | apply Kd.R_drew)); exact HO109.out) hb); have n1_ := Aside0.mk (Kd.R_below (by (with_reducible repeat (first | apply Kd.R_alloc | apply Kd.R_drewN | apply Kd.R_drew)); exact HO114.out) hb); have n2_ := Aside0.mk (below_step (by repeat (first | (with_reducible first | exact HB.out | apply below_alloc | apply pw_below_drewN | apply below_drew1) | exact HB.out)) hb); clear HO109; clear HO114; clear HB; have HO109 := n0_; have HO114 := n1_; have HB := n2_; clear n0_ n1_ n2_; (try clear hb); (try clear hb2); (try clear hk); (try clear hi)) | ((with_reducible refine gate_callee (f := 12) rfl ?_); refine goesL_ (some 18) rfl rfl Try.func12 (by kernel_rfl) rfl #[.string (⟨#[5, 20, 20, 0, 2, 2, 1]⟩ : ByteArray)] rfl (by (try simp only [List.map_toArray, List.map_cons, List.map_nil]); first | done | rfl | (simp only [List.length_drop, List.length_take]; rfl)) ?_; (with_reducible refine (deltacol_DecodeTimes.calls k (⟨#[5, 20, 20, 0, 2, 2, 1]⟩ : ByteArray) t117 t118 _ A3.out).mono ?_); rintro e w18 ⟨v119, rfl, ho0, hb⟩; refine ⟨_, rfl, ?_⟩; have n0_ := Aside0.mk (Kd.R_elder' (by (with_reducible repeat (first | apply Kd.R_alloc | apply Kd.R_drewN | apply Kd.R_drew)); exact HO109.out) (Kd.R_base ho0) hb); have n1_ := Aside0.mk (Kd.R_elder' (by (with_reducible repeat (first | apply Kd.R_alloc | apply Kd.R_drewN | apply Kd.R_drew)); exact HO114.out) (Kd.R_base ho0) hb); have n2_ := Aside0.mk (Kd.R_lower (Kd.R_new' (Kd.R_new' ho0 (Kd.R_lt (by (with_reducible repeat (first | apply Kd.R_alloc | apply Kd.R_drewN | apply Kd.R_drew)); exact HO109.out))) (Kd.R_lt (by (with_reducible repeat (first | apply Kd.R_alloc | apply Kd.R_drewN | apply Kd.R_drew)); exact HO114.out))) (below_size (by repeat (first | (with_reducible first | exact HB.out | apply below_alloc | apply pw_below_drewN | apply below_drew1) | exact HB.out)))); have n3_ := Aside0.mk (below_step (by repeat (first | (with_reducible first | exact HB.out | apply below_alloc | apply pw_below_drewN | apply below_drew1) | exact HB.out)) hb); clear HO109; clear HO114; clear HB; have HO109 := n0_; have HO114 := n1_; have HO120 := n2_; have HB := n3_; clear n0_ n1_ n2_ n3_; (try clear hb); (try clear hb2); (try clear hk); (try clear hi); (try clear ho0)) | ((with_reducible refine gate_dst (N := 41) rfl ?_); (try (refine gate_guard (by rfl) ?_; dsimp only)); refine Kd.R_lit (Kd.int .i64) _ 3 ?hg (N := 41) ?hd (xs := ([10, 20, 30, 40, 51] : List Int)) (inner := [.int .i64 10, .int .i64 20, .int .i64 30, .int .i64 40, .int .i64 51]) (ok := fun _ => True) (okp := fun _ => True) ?hr ?hp (fun _ hk => hk) trivial (Below.refl _ _) (Nat.le_refl _) (by simp) ?_; (case hd => rfl); (case hg => rfl); (case hr => first | (go_simp; done) | (go_simp; rfl)); (case hp => exact (Reps.one (show Kd.M (Kd.int .i64) _ _ _ 10 [.int .i64 10] from rfl) (Reps.one (show Kd.M (Kd.int .i64) _ _ _ 20 [.int .i64 20] from rfl) (Reps.one (show Kd.M (Kd.int .i64) _ _ _ 30 [.int .i64 30] from rfl) (Reps.one (show Kd.M (Kd.int .i64) _ _ _ 40 [.int .i64 40] from rfl) (Reps.one (show Kd.M (Kd.int .i64) _ _ _ 51 [.int .i64 51] from rfl) (Reps.none _ _))))))); intro v122 w19 ho20 hb hg_ hnew_; clear hg_ hnew_; (first | rw [← Ny121.out] at ho20 | (simp only [Int.reduceToNat] at ho20; rw [← Ny121.out] at ho20)); have n0_ := Aside0.mk (Kd.R_elder' (by (with_reducible repeat (first | apply Kd.R_alloc | apply Kd.R_drewN | apply Kd.R_drew)); exact HO109.out) (Kd.R_base ho20) hb); have n1_ := Aside0.mk (Kd.R_elder' (by (with_reducible repeat (first | apply Kd.R_alloc | apply Kd.R_drewN | apply Kd.R_drew)); exact HO114.out) (Kd.R_base ho20) hb); have n2_ := Aside0.mk (Kd.R_elder' (by (with_reducible repeat (first | apply Kd.R_alloc | apply Kd.R_drewN | apply Kd.R_drew)); exact HO120.out) (Kd.R_base ho20) hb); have n3_ := Aside0.mk (Kd.R_lower (Kd.R_new' (Kd.R_new' (Kd.R_new' ho20 (Kd.R_lt (by (with_reducible repeat (first | apply Kd.R_alloc | apply Kd.R_drewN | apply Kd.R_drew)); exact HO109.out))) (Kd.R_lt (by (with_reducible repeat (first | apply Kd.R_alloc | apply Kd.R_drewN | apply Kd.R_drew)); exact HO114.out))) (Kd.R_lt (by (with_reducible repeat (first | apply Kd.R_alloc | apply Kd.R_drewN | apply Kd.R_drew)); exact HO120.out))) (below_size (by repeat (first | (with_reducible first | exact HB.out | apply below_alloc | apply pw_below_drewN | apply below_drew1) | exact HB.out)))); have n4_ := Aside0.mk (below_step (by repeat (first | (with_reducible first | exact HB.out | apply below_alloc | apply pw_below_drewN | apply below_drew1) | exact HB.out)) hb); clear HO109; clear HO114; clear HO120; clear HB; have HO109 := n0_; have HO114 := n1_; have HO120 := n2_; have HO123 := n3_; have HB := n4_; clear n0_ n1_ n2_ n3_ n4_; clear hb ho20; obtain ⟨Ao21, co21, eo21⟩ := Kd.R_slice HO120.out; subst eo21; obtain ⟨Ao22, co22, eo22⟩ := Kd.R_slice HO123.out; subst eo22) | (go_at_call 14; (with_reducible refine (slices_Equal_int_int.calls k _ _ t117 _ _ y121 t124 _ ?side1 ?side2 ?side3 ?side4 A9.out).mono ?_); (case side1 => repeat (first | exact (Kd.R_reads' HO120.out).2.2 | (with_reducible refine Kd.C_alloc ?_ _) | (with_reducible refine Kd.C_drewN ?_ _) | (with_reducible refine Kd.C_drew ?_))); (case side2 => exact (Kd.R_reads' HO120.out).2.1); (case side3 => repeat (first | exact (Kd.R_reads' HO123.out).2.2 | (with_reducible refine Kd.C_alloc ?_ _) | (with_reducible refine Kd.C_drewN ?_ _) | (with_reducible refine Kd.C_drew ?_))); (case side4 => exact (Kd.R_reads' HO123.out).2.1); rintro e w' ⟨rfl, ⟨nd, rfl⟩⟩))
            go_ret
            exact ⟨by first | rfl | (simp [errW_none, errW_some] <;> rfl) | (simp [*, errW_none, errW_some] <;> rfl), by repeat (first | (with_reducible first | exact HB.out | apply below_alloc | apply pw_below_drewN | apply below_drew1) | exact HB.out)⟩
          · rw [if_neg c8] at H
            exact absurd H (by simp)
        · rw [if_neg c7] at H
          exact absurd H (by simp)
      · rw [if_neg c6] at H
        exact absurd H (by simp)
    · rw [if_neg c5] at H
      exact absurd H (by simp)
  · rw [if_neg c4] at H
    exact absurd H (by simp)

end Go.Proofs.Ytbihedcjcmcjaaa.P
