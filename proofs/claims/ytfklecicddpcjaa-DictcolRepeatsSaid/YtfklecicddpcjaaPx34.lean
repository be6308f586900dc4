/- Printed by a program of this session: functions of the law's Go code as Lean functions, and that the Go code computes them. No condition beyond those in the statements. -/
import Derived.Test.YtfklecicddpcjaaPx0
import Derived.Test.YtfklecicddpcjaaPx32
import Derived.Test.YtfklecicddpcjaaPx33
namespace Go.Proofs.Ytfklecicddpcjaa.P
open Go.RowKit Go.Proofs.YtfklecicddpcjaaW.PrintWords Go.Proofs.YtfklecicddpcjaaW.PrintLast Go.Proofs.YtfklecicddpcjaaW.PrintMore Go.Proofs.Ytfklecicddpcjaa.Hand Go.Proofs.Ytfklecicddpcjaa.A
attribute [local go_sem] max2_int min2_int max_two min_two max_three min_three max_four min_four   -- for this text's walks alone
set_option linter.unusedVariables false
set_option linter.unusedSimpArgs false

/-! ### lookoutlaw10_awake: function 12 -/
def lookoutlaw10_awake.f (k : Nat)  : Option (Bool) := (some (([(⟨#[98]⟩ : ByteArray), (⟨#[98]⟩ : ByteArray), (⟨#[97, 98]⟩ : ByteArray), (⟨#[97, 98, 99]⟩ : ByteArray)] : List ByteArray) : List ByteArray)).bind fun y269 => ((dictcol_Encode.f k y269).bind fun bt272 => ((dictcol_Decode.f k bt272.1).bind fun bt274 => ((dictcol_Lookup.f k bt272.1 (⟨#[98]⟩ : ByteArray)).bind fun bt278 => (if bt272.2 = 0 then (if bt274.2 = 0 then (if bt278.2 = 0 then (if bt272.1.toList = ([4, 3, 0, 2, 97, 98, 2, 1, 99, 0, 1, 98, 2, 1, 0, 0, 1, 0] : List UInt8) then ((lookoutref10_Same.f k y269 bt274.1).bind fun t282 => (if t282 = true then ((lookoutref01_Same.f k bt278.1 (([0, 1] : List Int))).bind fun t286 => (some t286)) else (none))) else (none)) else (none)) else (none)) else (none)))))
theorem lookoutlaw10_awake.mono : ∀ k, LeO (lookoutlaw10_awake.f k ) (lookoutlaw10_awake.f (k + 1) ) := by
  intro  k
  unfold lookoutlaw10_awake.f
  repeat' first
      | (with_reducible exact dictcol_Decode.mono _ _)
      | (with_reducible exact dictcol_Encode.mono _ _)
      | (with_reducible exact dictcol_Lookup.mono _ _ _)
      | (with_reducible exact lookoutref01_Same.mono _ _ _)
      | (with_reducible exact lookoutref10_Same.mono _ _ _)
      | (with_reducible exact LeO.refl _)
      | (with_reducible exact LeO.none _)
      | (with_reducible refine LeO.ite ?_ ?_)
      | (with_reducible refine LeO.bind ?_ (fun _ => ?_))
      | exact dictcol_Decode.mono _ _
      | exact dictcol_Encode.mono _ _
      | exact dictcol_Lookup.mono _ _ _
      | exact lookoutref01_Same.mono _ _ _
      | exact lookoutref10_Same.mono _ _ _
      | exact LeO.none _
      | refine LeO.ite ?_ ?_
      | refine LeO.bind ?_ (fun _ => ?_)
set_option maxHeartbeats 8000000 in
set_option maxRecDepth 100000 in
theorem lookoutlaw10_awake.calls (k : Nat)  (r : Bool) (w : World) (h : lookoutlaw10_awake.f k  = some r) :
    Calls Try.prog 12 #[] w fun e w' => e = .returned (.bool r) ∧ Below w.heap.size w w' := by
  have HB := Aside0.mk (Below.refl w.heap.size w)
  have H : ((some (([(⟨#[98]⟩ : ByteArray), (⟨#[98]⟩ : ByteArray), (⟨#[97, 98]⟩ : ByteArray), (⟨#[97, 98, 99]⟩ : ByteArray)] : List ByteArray) : List ByteArray)).bind fun y269 => ((dictcol_Encode.f k y269).bind fun bt272 => ((dictcol_Decode.f k bt272.1).bind fun bt274 => ((dictcol_Lookup.f k bt272.1 (⟨#[98]⟩ : ByteArray)).bind fun bt278 => (if bt272.2 = 0 then (if bt274.2 = 0 then (if bt278.2 = 0 then (if bt272.1.toList = ([4, 3, 0, 2, 97, 98, 2, 1, 99, 0, 1, 98, 2, 1, 0, 0, 1, 0] : List UInt8) then ((lookoutref10_Same.f k y269 bt274.1).bind fun t282 => (if t282 = true then ((lookoutref01_Same.f k bt278.1 (([0, 1] : List Int))).bind fun t286 => (some t286)) else (none))) else (none)) else (none)) else (none)) else (none)))))) = some r := h
  clear h
  obtain ⟨y269, hy269⟩ : ∃ y_ : List ByteArray, y_ = (([(⟨#[98]⟩ : ByteArray), (⟨#[98]⟩ : ByteArray), (⟨#[97, 98]⟩ : ByteArray), (⟨#[97, 98, 99]⟩ : ByteArray)] : List ByteArray)) := ⟨_, rfl⟩
  replace H : ((dictcol_Encode.f k y269).bind fun bt272 => ((dictcol_Decode.f k bt272.1).bind fun bt274 => ((dictcol_Lookup.f k bt272.1 (⟨#[98]⟩ : ByteArray)).bind fun bt278 => (if bt272.2 = 0 then (if bt274.2 = 0 then (if bt278.2 = 0 then (if bt272.1.toList = ([4, 3, 0, 2, 97, 98, 2, 1, 99, 0, 1, 98, 2, 1, 0, 0, 1, 0] : List UInt8) then ((lookoutref10_Same.f k y269 bt274.1).bind fun t282 => (if t282 = true then ((lookoutref01_Same.f k bt278.1 (([0, 1] : List Int))).bind fun t286 => (some t286)) else (none))) else (none)) else (none)) else (none)) else (none))))) = some r := by first | (rw [hy269]; with_reducible exact H) | (have H2_ := (Option.bind_some _ _).symm.trans H; rw [hy269]; with_reducible exact H2_) | (have H2_ := (Option.bind_some _ _).symm.trans H; with_reducible exact H2_) | with_reducible exact H | (rw [hy269]; exact H) | exact H
  have Ny269 := Aside0.mk hy269
  clear hy269
  replace H := Option.bind_eq_some_iff.mp H
  obtain ⟨⟨t272, t273⟩, A10, H⟩ := H
  replace H : ((dictcol_Decode.f k t272).bind fun bt274 => ((dictcol_Lookup.f k t272 (⟨#[98]⟩ : ByteArray)).bind fun bt278 => (if t273 = 0 then (if bt274.2 = 0 then (if bt278.2 = 0 then (if t272.toList = ([4, 3, 0, 2, 97, 98, 2, 1, 99, 0, 1, 98, 2, 1, 0, 0, 1, 0] : List UInt8) then ((lookoutref10_Same.f k y269 bt274.1).bind fun t282 => (if t282 = true then ((lookoutref01_Same.f k bt278.1 (([0, 1] : List Int))).bind fun t286 => (some t286)) else (none))) else (none)) else (none)) else (none)) else (none)))) = some r := H
  have A1 := Aside0.mk A10
  clear A10
  replace H := Option.bind_eq_some_iff.mp H
  obtain ⟨⟨t274, t275⟩, A20, H⟩ := H
  replace H : ((dictcol_Lookup.f k t272 (⟨#[98]⟩ : ByteArray)).bind fun bt278 => (if t273 = 0 then (if t275 = 0 then (if bt278.2 = 0 then (if t272.toList = ([4, 3, 0, 2, 97, 98, 2, 1, 99, 0, 1, 98, 2, 1, 0, 0, 1, 0] : List UInt8) then ((lookoutref10_Same.f k y269 t274).bind fun t282 => (if t282 = true then ((lookoutref01_Same.f k bt278.1 (([0, 1] : List Int))).bind fun t286 => (some t286)) else (none))) else (none)) else (none)) else (none)) else (none))) = some r := H
  have A2 := Aside0.mk A20
  clear A20
  replace H := Option.bind_eq_some_iff.mp H
  obtain ⟨⟨t278, t279⟩, A30, H⟩ := H
  replace H : (if t273 = 0 then (if t275 = 0 then (if t279 = 0 then (if t272.toList = ([4, 3, 0, 2, 97, 98, 2, 1, 99, 0, 1, 98, 2, 1, 0, 0, 1, 0] : List UInt8) then ((lookoutref10_Same.f k y269 t274).bind fun t282 => (if t282 = true then ((lookoutref01_Same.f k t278 (([0, 1] : List Int))).bind fun t286 => (some t286)) else (none))) else (none)) else (none)) else (none)) else (none)) = some r := H
  have A3 := Aside0.mk A30
  clear A30
  by_cases c4 : t273 = 0
  · rw [if_pos c4] at H
    have c4b0 : (t273 == 0) = true := beq_iff_eq.mpr c4
    have c4b1 : (t273 != 0) = false := bne_eq_false_iff_eq.mpr c4
    clear c4
    by_cases c5 : t275 = 0
    · rw [if_pos c5] at H
      have c5b0 : (t275 == 0) = true := beq_iff_eq.mpr c5
      have c5b1 : (t275 != 0) = false := bne_eq_false_iff_eq.mpr c5
      clear c5
      by_cases c6 : t279 = 0
      · rw [if_pos c6] at H
        have c6b0 : (t279 == 0) = true := beq_iff_eq.mpr c6
        have c6b1 : (t279 != 0) = false := bne_eq_false_iff_eq.mpr c6
        clear c6
        by_cases c7 : t272.toList = ([4, 3, 0, 2, 97, 98, 2, 1, 99, 0, 1, 98, 2, 1, 0, 0, 1, 0] : List UInt8)
        · rw [if_pos c7] at H
          have c7b0 : (t272.toList == ([4, 3, 0, 2, 97, 98, 2, 1, 99, 0, 1, 98, 2, 1, 0, 0, 1, 0] : List UInt8)) = true := beq_iff_eq.mpr c7
          have c7b1 : (t272.toList != ([4, 3, 0, 2, 97, 98, 2, 1, 99, 0, 1, 98, 2, 1, 0, 0, 1, 0] : List UInt8)) = false := bne_eq_false_iff_eq.mpr c7
          clear c7
          replace H := Option.bind_eq_some_iff.mp H
          obtain ⟨t282, A80, H⟩ := H
          replace H : (if t282 = true then ((lookoutref01_Same.f k t278 (([0, 1] : List Int))).bind fun t286 => (some t286)) else (none)) = some r := H
          have A8 := Aside0.mk A80
          clear A80
          by_cases c9 : t282 = true
          · subst c9
            have H1 : ((lookoutref01_Same.f k t278 (([0, 1] : List Int))).bind fun t286 => (some t286)) = some r := by rw [if_pos rfl] at H; exact H
            clear H
            have H := H1
            clear H1
            obtain ⟨y283, hy283⟩ : ∃ y_ : List Int, y_ = (([0, 1] : List Int)) := ⟨_, rfl⟩
            replace H : ((lookoutref01_Same.f k t278 y283).bind fun t286 => (some t286)) = some r := by first | (rw [hy283]; with_reducible exact H) | (have H2_ := (Option.bind_some _ _).symm.trans H; rw [hy283]; with_reducible exact H2_) | (have H2_ := (Option.bind_some _ _).symm.trans H; with_reducible exact H2_) | with_reducible exact H | (rw [hy283]; exact H) | exact H
            have Ny283 := Aside0.mk hy283
            clear hy283
            replace H := Option.bind_eq_some_iff.mp H
            obtain ⟨t286, A100, H⟩ := H
            replace H : (some t286) = some r := H
            have A10 := Aside0.mk A100
            clear A100
            obtain rfl := Option.some.inj H
            go_enter Try.func12, Try.ntmps12
            go_wp2_with (first | ((with_reducible refine gate_dst (N := 8) rfl ?_); (try (refine gate_guard (by rfl) ?_; dsimp only)); refine Kd.R_lit Kd.string _ 9 ?hg (N := 8) ?hd (xs := ([(⟨#[98]⟩ : ByteArray), (⟨#[98]⟩ : ByteArray), (⟨#[97, 98]⟩ : ByteArray), (⟨#[97, 98, 99]⟩ : ByteArray)] : List ByteArray)) (inner := [.string (⟨#[98]⟩ : ByteArray), .string (⟨#[98]⟩ : ByteArray), .string (⟨#[97, 98]⟩ : ByteArray), .string (⟨#[97, 98, 99]⟩ : ByteArray)]) (ok := fun _ => True) (okp := fun _ => True) ?hr ?hp (fun _ hk => hk) trivial (Below.refl _ _) (Nat.le_refl _) (by simp) ?_; (case hd => rfl); (case hg => rfl); (case hr => first | (go_simp; done) | (go_simp; rfl)); (case hp => exact (Reps.one (show Kd.M Kd.string _ _ _ (⟨#[98]⟩ : ByteArray) [.string (⟨#[98]⟩ : ByteArray)] from rfl) (Reps.one (show Kd.M Kd.string _ _ _ (⟨#[98]⟩ : ByteArray) [.string (⟨#[98]⟩ : ByteArray)] from rfl) (Reps.one (show Kd.M Kd.string _ _ _ (⟨#[97, 98]⟩ : ByteArray) [.string (⟨#[97, 98]⟩ : ByteArray)] from rfl) (Reps.one (show Kd.M Kd.string _ _ _ (⟨#[97, 98, 99]⟩ : ByteArray) [.string (⟨#[97, 98, 99]⟩ : ByteArray)] from rfl) (Reps.none _ _)))))); intro v270 w11 ho12 hb hg_ hnew_; clear hg_ hnew_; (first | rw [← Ny269.out] at ho12 | (simp only [Int.reduceToNat] at ho12; rw [← Ny269.out] at ho12)); have n0_ := Aside0.mk (Kd.R_lower ho12 (below_size (by repeat (first | (with_reducible first | exact HB.out | apply below_alloc | apply pw_below_drewN | apply below_drew1) | exact HB.out)))); have n1_ := Aside0.mk (below_step (by repeat (first | (with_reducible first | exact HB.out | apply below_alloc | apply pw_below_drewN | apply below_drew1) | exact HB.out)) hb); clear HB; have HO271 := n0_; have HB := n1_; clear n0_ n1_; clear hb ho12; obtain ⟨Ao13, co13, eo13⟩ := Kd.R_slice HO271.out; subst eo13) | ((with_reducible refine gate_callee (f := 13) rfl ?_); refine goesL_ (some 11) rfl rfl Try.func13 (by kernel_rfl) rfl #[.slice Ao13 y269.length co13] rfl (by (try simp only [List.map_toArray, List.map_cons, List.map_nil]); first | done | rfl | (simp only [List.length_drop, List.length_take]; rfl)) ?_; (with_reducible refine (dictcol_Encode.calls k _ _ y269 t272 t273 _ ?side1 ?side2 A1.out).mono ?_); (case side1 => repeat (first | exact (Kd.R_reads' HO271.out).2.2 | (with_reducible refine Kd.C_alloc ?_ _) | (with_reducible refine Kd.C_drewN ?_ _) | (with_reducible refine Kd.C_drew ?_))); (case side2 => exact (Kd.R_reads' HO271.out).2.1); rintro e w14 ⟨rfl, hb⟩; refine ⟨_, rfl, ?_⟩; have n0_ := Aside0.mk (Kd.R_below (by (with_reducible repeat (first | apply Kd.R_alloc | apply Kd.R_drewN | apply Kd.R_drew)); exact HO271.out) hb); have n1_ := Aside0.mk (below_step (by repeat (first | (with_reducible first | exact HB.out | apply below_alloc | apply pw_below_drewN | apply below_drew1) | exact HB.out)) hb); clear HO271; clear HB; have HO271 := n0_; have HB := n1_; clear n0_ n1_; (try clear hb); (try clear hb2); (try clear hk); (try clear hi)) | ((with_reducible refine gate_callee (f := 18) rfl ?_); refine goesL_ (some 16) rfl rfl Try.func18 (by kernel_rfl) rfl #[.string t272] rfl (by (try simp only [List.map_toArray, List.map_cons, List.map_nil]); first | done | rfl | (simp only [List.length_drop, List.length_take]; rfl)) ?_; (with_reducible refine (dictcol_Decode.calls k t272 t274 t275 _ A2.out).mono ?_); rintro e w15 ⟨v276, rfl, ho0, hb⟩; refine ⟨_, rfl, ?_⟩; have n0_ := Aside0.mk (Kd.R_elder' (by (with_reducible repeat (first | apply Kd.R_alloc | apply Kd.R_drewN | apply Kd.R_drew)); exact HO271.out) (Kd.R_base ho0) hb); have n1_ := Aside0.mk (Kd.R_lower (Kd.R_new' ho0 (Kd.R_lt (by (with_reducible repeat (first | apply Kd.R_alloc | apply Kd.R_drewN | apply Kd.R_drew)); exact HO271.out))) (below_size (by repeat (first | (with_reducible first | exact HB.out | apply below_alloc | apply pw_below_drewN | apply below_drew1) | exact HB.out)))); have n2_ := Aside0.mk (below_step (by repeat (first | (with_reducible first | exact HB.out | apply below_alloc | apply pw_below_drewN | apply below_drew1) | exact HB.out)) hb); clear HO271; clear HB; have HO271 := n0_; have HO277 := n1_; have HB := n2_; clear n0_ n1_ n2_; (try clear hb); (try clear hb2); (try clear hk); (try clear hi); (try clear ho0)) | ((with_reducible refine gate_callee (f := 24) rfl ?_); refine goesL_ (some 21) rfl rfl Try.func24 (by kernel_rfl) rfl #[.string t272, .string (⟨#[98]⟩ : ByteArray)] rfl (by (try simp only [List.map_toArray, List.map_cons, List.map_nil]); first | done | rfl | (simp only [List.length_drop, List.length_take]; rfl)) ?_; (with_reducible refine (dictcol_Lookup.calls k t272 (⟨#[98]⟩ : ByteArray) t278 t279 _ A3.out).mono ?_); rintro e w16 ⟨v280, rfl, ho0, hb⟩; refine ⟨_, rfl, ?_⟩; have n0_ := Aside0.mk (Kd.R_below (by (with_reducible repeat (first | apply Kd.R_alloc | apply Kd.R_drewN | apply Kd.R_drew)); exact HO271.out) hb); have n1_ := Aside0.mk (Kd.R_below (by (with_reducible repeat (first | apply Kd.R_alloc | apply Kd.R_drewN | apply Kd.R_drew)); exact HO277.out) hb); have n2_ := Aside0.mk (Kd.R_lower ho0 (below_size (by repeat (first | (with_reducible first | exact HB.out | apply below_alloc | apply pw_below_drewN | apply below_drew1) | exact HB.out)))); have n3_ := Aside0.mk (below_step (by repeat (first | (with_reducible first | exact HB.out | apply below_alloc | apply pw_below_drewN | apply below_drew1) | exact HB.out)) hb); clear HO271; clear HO277; clear HB; have HO271 := n0_; have HO277 := n1_; have HO281 := n2_; have HB := n3_; clear n0_ n1_ n2_ n3_; (try clear hb); (try clear hb2); (try clear hk); (try clear hi); (try clear ho0); obtain ⟨Ao17, co17, eo17⟩ := Kd.R_slice HO277.out; subst eo17) | (go_at_call 19; (with_reducible refine (lookoutref10_Same.calls k _ _ y269 _ _ t274 true _ ?side1 ?side2 ?side3 ?side4 A8.out).mono ?_); (case side1 => repeat (first | exact (Kd.R_reads' HO271.out).2.2 | (with_reducible refine Kd.C_alloc ?_ _) | (with_reducible refine Kd.C_drewN ?_ _) | (with_reducible refine Kd.C_drew ?_))); (case side2 => exact (Kd.R_reads' HO271.out).2.1); (case side3 => repeat (first | exact (Kd.R_reads' HO277.out).2.2 | (with_reducible refine Kd.C_alloc ?_ _) | (with_reducible refine Kd.C_drewN ?_ _) | (with_reducible refine Kd.C_drew ?_))); (case side4 => exact (Kd.R_reads' HO277.out).2.1); rintro e w' ⟨rfl, ⟨nd, rfl⟩⟩) | ((with_reducible refine gate_dst (N := 45) rfl ?_); (try (refine gate_guard (by rfl) ?_; dsimp only)); refine Kd.R_lit (Kd.int .i64) _ 3 ?hg (N := 45) ?hd (xs := ([0, 1] : List Int)) (inner := [.int .i64 0, .int .i64 1]) (ok := fun _ => True) (okp := fun _ => True) ?hr ?hp (fun _ hk => hk) trivial (Below.refl _ _) (Nat.le_refl _) (by simp) ?_; (case hd => rfl); (case hg => rfl); (case hr => first | (go_simp; done) | (go_simp; rfl)); (case hp => exact (Reps.one (show Kd.M (Kd.int .i64) _ _ _ 0 [.int .i64 0] from rfl) (Reps.one (show Kd.M (Kd.int .i64) _ _ _ 1 [.int .i64 1] from rfl) (Reps.none _ _)))); intro v284 w18 ho19 hb hg_ hnew_; clear hg_ hnew_; (first | rw [← Ny283.out] at ho19 | (simp only [Int.reduceToNat] at ho19; rw [← Ny283.out] at ho19)); have n0_ := Aside0.mk (Kd.R_below (by (with_reducible repeat (first | apply Kd.R_alloc | apply Kd.R_drewN | apply Kd.R_drew)); exact HO271.out) hb); have n1_ := Aside0.mk (Kd.R_below (by (with_reducible repeat (first | apply Kd.R_alloc | apply Kd.R_drewN | apply Kd.R_drew)); exact HO277.out) hb); have n2_ := Aside0.mk (Kd.R_elder' (by (with_reducible repeat (first | apply Kd.R_alloc | apply Kd.R_drewN | apply Kd.R_drew)); exact HO281.out) (Kd.R_base ho19) hb); have n3_ := Aside0.mk (Kd.R_lower (Kd.R_new' ho19 (Kd.R_lt (by (with_reducible repeat (first | apply Kd.R_alloc | apply Kd.R_drewN | apply Kd.R_drew)); exact HO281.out))) (below_size (by repeat (first | (with_reducible first | exact HB.out | apply below_alloc | apply pw_below_drewN | apply below_drew1) | exact HB.out)))); have n4_ := Aside0.mk (below_step (by repeat (first | (with_reducible first | exact HB.out | apply below_alloc | apply pw_below_drewN | apply below_drew1) | exact HB.out)) hb); clear HO271; clear HO277; clear HO281; clear HB; have HO271 := n0_; have HO277 := n1_; have HO281 := n2_; have HO285 := n3_; have HB := n4_; clear n0_ n1_ n2_ n3_ n4_; clear hb ho19; obtain ⟨Ao20, co20, eo20⟩ := Kd.R_slice HO281.out; subst eo20; obtain ⟨Ao21, co21, eo21⟩ := Kd.R_slice HO285.out; subst eo21) | (go_at_call 28; (with_reducible refine (lookoutref01_Same.calls k _ _ t278 _ _ y283 t286 _ ?side1 ?side2 ?side3 ?side4 A10.out).mono ?_); (case side1 => repeat (first | exact (Kd.R_reads' HO281.out).2.2 | (with_reducible refine Kd.C_alloc ?_ _) | (with_reducible refine Kd.C_drewN ?_ _) | (with_reducible refine Kd.C_drew ?_))); (case side2 => exact (Kd.R_reads' HO281.out).2.1); (case side3 => repeat (first | exact (Kd.R_reads' HO285.out).2.2 | (with_reducible refine Kd.C_alloc ?_ _) | (with_reducible refine Kd.C_drewN ?_ _) | (with_reducible refine Kd.C_drew ?_))); (case side4 => exact (Kd.R_reads' HO285.out).2.1); rintro e w' ⟨rfl, ⟨nd, rfl⟩⟩))
            go_ret
            exact ⟨by first | rfl | (simp [errW_none, errW_some] <;> rfl) | (simp [*, errW_none, errW_some] <;> rfl), by repeat (first | (with_reducible first | exact HB.out | apply below_alloc | apply pw_below_drewN | apply below_drew1) | exact HB.out)⟩
          · replace c9 := Bool.eq_false_iff.mpr c9
            subst c9
            have H1 : (none) = some r := by rw [if_neg (show ¬ (false = true) by decide)] at H; exact H
            clear H
            have H := H1
            clear H1
            exact absurd H (by simp)
        · rw [if_neg c7] at H
          exact absurd H (by simp)
      · rw [if_neg c6] at H
        exact absurd H (by simp)
    · rw [if_neg c5] at H
      exact absurd H (by simp)
  · rw [if_neg c4] at H
    exact absurd H (by simp)

end Go.Proofs.Ytfklecicddpcjaa.P
