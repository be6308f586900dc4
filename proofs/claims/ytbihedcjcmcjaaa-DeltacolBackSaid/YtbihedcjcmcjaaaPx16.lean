/- Printed by a program of this session: functions of the law's Go code as Lean functions, and that the Go code computes them. No condition beyond those in the statements. -/
import Derived.Test.YtbihedcjcmcjaaaPx0
import Derived.Test.YtbihedcjcmcjaaaPx12
namespace Go.Proofs.Ytbihedcjcmcjaaa.P
open Go.RowKit Go.Proofs.YtbihedcjcmcjaaaW.PrintWords Go.Proofs.YtbihedcjcmcjaaaW.PrintLast Go.Proofs.YtbihedcjcmcjaaaW.PrintMore Go.Proofs.Ytbihedcjcmcjaaa.Hand Go.Proofs.Ytbihedcjcmcjaaa.A Go.Proofs.Ytbihedcjcmcjaaa.C
attribute [local go_sem] max2_int min2_int max_two min_two max_three min_three max_four min_four   -- for this text's walks alone
set_option linter.unusedVariables false
set_option linter.unusedSimpArgs false

/-! ### lookoutlaw09_DeltacolBack: function 5 -/
mutual
def lookoutlaw09_DeltacolBack.j0 : Nat → List Int → List Int → Bool → Option (Bool)
  | 0, _, _, _ => none
  | k + 1, x0, x1, x24 => if x24 = true then ((lookoutlaw09_awake.f k).bind fun t162 => (some t162)) else ((deltacol_EncodeTimes.f k x0).bind fun bt163 => (if bt163.2 = 0 then ((deltacol_DecodeTimes.f k bt163.1).bind fun bt165 => ((deltacol_Count.f bt163.1).bind fun bt169 => (if bt165.2 = 0 then (if bt169.2 = 0 then (if bt169.1 = (x0.length : Int) then ((slices_Equal_int_int.f k bt165.1 x0).bind fun t171 => (if t171 = true then (lookoutlaw09_DeltacolBack.j1 k x1) else (none))) else (none)) else (none)) else (none)))) else (lookoutlaw09_DeltacolBack.j1 k x1)))
def lookoutlaw09_DeltacolBack.j1 : Nat → List Int → Option (Bool)
  | 0, _ => none
  | k + 1, x1 => (deltacol_EncodeValues.f k x1).bind fun bt172 => (if bt172.2 = 0 then ((deltacol_DecodeValues.f k bt172.1).bind fun bt174 => ((deltacol_Count.f bt172.1).bind fun bt178 => (if bt174.2 = 0 then (if bt178.2 = 0 then (if bt178.1 = (x1.length : Int) then ((slices_Equal_int_int.f k bt174.1 x1).bind fun t180 => (if t180 = true then ((lookoutlaw09_awake.f k).bind fun t181 => (some t181)) else (none))) else (none)) else (none)) else (none)))) else ((lookoutlaw09_awake.f k).bind fun t182 => (some t182)))
end
def lookoutlaw09_DeltacolBack.f (k : Nat) (l0 : List Int) (l1 : List Int) : Option (Bool) := if (l0.length : Int) > 50 then (lookoutlaw09_DeltacolBack.j0 k l0 l1 true) else (lookoutlaw09_DeltacolBack.j0 k l0 l1 (decide ((l1.length : Int) > 50)))
theorem lookoutlaw09_DeltacolBack.mono_l : ∀ k, (∀ y0 y1 y2, LeO (lookoutlaw09_DeltacolBack.j0 k y0 y1 y2) (lookoutlaw09_DeltacolBack.j0 (k + 1) y0 y1 y2)) ∧ (∀ y0, LeO (lookoutlaw09_DeltacolBack.j1 k y0) (lookoutlaw09_DeltacolBack.j1 (k + 1) y0))
  | 0 => ⟨fun _ _ _ r h => by simp [lookoutlaw09_DeltacolBack.j0] at h, fun _ r h => by simp [lookoutlaw09_DeltacolBack.j1] at h⟩
  | k + 1 => by
    obtain ⟨ih0, ih1⟩ := lookoutlaw09_DeltacolBack.mono_l k
    refine ⟨?_, ?_⟩
    · intro y0 y1 y2
      unfold lookoutlaw09_DeltacolBack.j0
      repeat' first
      | (with_reducible exact ih0 _ _ _)
      | (with_reducible exact ih1 _)
      | (with_reducible exact deltacol_DecodeTimes.mono _ _)
      | (with_reducible exact deltacol_DecodeValues.mono _ _)
      | (with_reducible exact deltacol_EncodeTimes.mono _ _)
      | (with_reducible exact deltacol_EncodeValues.mono _ _)
      | (with_reducible exact lookoutlaw09_awake.mono _)
      | (with_reducible exact slices_Equal_int_int.mono _ _ _)
      | (with_reducible exact LeO.refl _)
      | (with_reducible exact LeO.none _)
      | (with_reducible refine LeO.ite ?_ ?_)
      | (with_reducible refine LeO.bind ?_ (fun _ => ?_))
      | exact ih0 _ _ _
      | exact ih1 _
      | exact deltacol_DecodeTimes.mono _ _
      | exact deltacol_DecodeValues.mono _ _
      | exact deltacol_EncodeTimes.mono _ _
      | exact deltacol_EncodeValues.mono _ _
      | exact lookoutlaw09_awake.mono _
      | exact slices_Equal_int_int.mono _ _ _
      | exact LeO.none _
      | refine LeO.ite ?_ ?_
      | refine LeO.bind ?_ (fun _ => ?_)
    · intro y0
      unfold lookoutlaw09_DeltacolBack.j1
      repeat' first
      | (with_reducible exact ih0 _ _ _)
      | (with_reducible exact ih1 _)
      | (with_reducible exact deltacol_DecodeTimes.mono _ _)
      | (with_reducible exact deltacol_DecodeValues.mono _ _)
      | (with_reducible exact deltacol_EncodeTimes.mono _ _)
      | (with_reducible exact deltacol_EncodeValues.mono _ _)
      | (with_reducible exact lookoutlaw09_awake.mono _)
      | (with_reducible exact slices_Equal_int_int.mono _ _ _)
      | (with_reducible exact LeO.refl _)
      | (with_reducible exact LeO.none _)
      | (with_reducible refine LeO.ite ?_ ?_)
      | (with_reducible refine LeO.bind ?_ (fun _ => ?_))
      | exact ih0 _ _ _
      | exact ih1 _
      | exact deltacol_DecodeTimes.mono _ _
      | exact deltacol_DecodeValues.mono _ _
      | exact deltacol_EncodeTimes.mono _ _
      | exact deltacol_EncodeValues.mono _ _
      | exact lookoutlaw09_awake.mono _
      | exact slices_Equal_int_int.mono _ _ _
      | exact LeO.none _
      | refine LeO.ite ?_ ?_
      | refine LeO.bind ?_ (fun _ => ?_)
theorem lookoutlaw09_DeltacolBack.mono : ∀ a0 a1 k, LeO (lookoutlaw09_DeltacolBack.f k a0 a1) (lookoutlaw09_DeltacolBack.f (k + 1) a0 a1) := by
  intro a0 a1 k
  obtain ⟨ih0, ih1⟩ := lookoutlaw09_DeltacolBack.mono_l k
  unfold lookoutlaw09_DeltacolBack.f
  repeat' first
      | (with_reducible exact ih0 _ _ _)
      | (with_reducible exact ih1 _)
      | (with_reducible exact deltacol_DecodeTimes.mono _ _)
      | (with_reducible exact deltacol_DecodeValues.mono _ _)
      | (with_reducible exact deltacol_EncodeTimes.mono _ _)
      | (with_reducible exact deltacol_EncodeValues.mono _ _)
      | (with_reducible exact lookoutlaw09_awake.mono _)
      | (with_reducible exact slices_Equal_int_int.mono _ _ _)
      | (with_reducible exact LeO.refl _)
      | (with_reducible exact LeO.none _)
      | (with_reducible refine LeO.ite ?_ ?_)
      | (with_reducible refine LeO.bind ?_ (fun _ => ?_))
      | exact ih0 _ _ _
      | exact ih1 _
      | exact deltacol_DecodeTimes.mono _ _
      | exact deltacol_DecodeValues.mono _ _
      | exact deltacol_EncodeTimes.mono _ _
      | exact deltacol_EncodeValues.mono _ _
      | exact lookoutlaw09_awake.mono _
      | exact slices_Equal_int_int.mono _ _ _
      | exact LeO.none _
      | refine LeO.ite ?_ ?_
      | refine LeO.bind ?_ (fun _ => ?_)
set_option maxHeartbeats 8000000 in
set_option maxRecDepth 100000 in
theorem lookoutlaw09_DeltacolBack.calls (k : Nat) (A0 : Option Addr) (c0 : Nat) (l0 : List Int) (A1 : Option Addr) (c1 : Nat) (l1 : List Int) (r : Bool) (w : World) (hr0 : Kd.C (Kd.int .i64) w A0 l0.length l0) (hc0 : l0.length ≤ c0) (hr1 : Kd.C (Kd.int .i64) w A1 l1.length l1) (hc1 : l1.length ≤ c1) (h : lookoutlaw09_DeltacolBack.f k l0 l1 = some r) :
    Calls Try.prog 5 #[.slice A0 l0.length c0, .slice A1 l1.length c1] w fun e w' => e = .returned (.bool r) ∧ Below w.heap.size w w' := by
  have HR0 := Aside0.mk hr0
  have HC0 := Aside0.mk hc0
  clear hr0 hc0
  have HR1 := Aside0.mk hr1
  have HC1 := Aside0.mk hc1
  clear hr1 hc1
  have HB := Aside0.mk (Below.refl w.heap.size w)
  have H : (if (l0.length : Int) > 50 then (lookoutlaw09_DeltacolBack.j0 k l0 l1 true) else (lookoutlaw09_DeltacolBack.j0 k l0 l1 (decide ((l1.length : Int) > 50)))) = some r := h
  clear h
  have HC3 := Aside0.mk H
  clear H
  go_enter Try.func5, Try.ntmps5
  go_upto_region 1 with (fail)
  go_cut [24] (fun v24 wc => ∃ (kq : Nat) (x24_2 : Bool), v24 = .bool x24_2 ∧ Aside0 (lookoutlaw09_DeltacolBack.j0 kq l0 l1 x24_2 = some r) ∧ Aside0 (kq ≤ k) ∧ Aside0 (Below w.heap.size w wc))
  case first =>
    have H := HC3.out
    clear HC3
    by_cases c4 : (l0.length : Int) > 50
    · rw [if_pos c4] at H
      have c4b0 : decide (50 < (l0.length : Int)) = true := decide_eq_true c4
      have c4b1 : decide (50 < l0.length) = true := decide_eq_true (by omega)
      clear c4
      (first | rw [c4b0] | (simp only [i64_w, i32_w]; rw [c4b0]) | rw [c4b1] | (simp only [i64_w, i32_w]; rw [c4b1]) | skip)
      have H' := Aside0.mk H
      clear H
      go_wp2
      go_meet
      case rel => exact ⟨_, (true), (by first | rfl | (simp; done) | (simp [*]; done)), H', ⟨by first | omega | exact Nat.le_refl _⟩, ⟨by repeat (first | (with_reducible first | exact HB.out | apply below_alloc | apply pw_below_drewN | apply below_drew1) | exact HB.out)⟩⟩
    · rw [if_neg c4] at H
      have c4b0 : decide (50 < (l0.length : Int)) = false := decide_eq_false c4
      have c4b1 : decide (50 < l0.length) = false := decide_eq_false (by omega)
      clear c4
      (first | rw [c4b0] | (simp only [i64_w, i32_w]; rw [c4b0]) | rw [c4b1] | (simp only [i64_w, i32_w]; rw [c4b1]) | skip)
      have H' := Aside0.mk H
      clear H
      go_wp2
      go_meet
      case rel => exact ⟨_, (decide ((l1.length : Int) > 50)), (by first | rfl | (simp; done) | (simp [*]; done)), H', ⟨by first | omega | exact Nat.le_refl _⟩, ⟨by repeat (first | (with_reducible first | exact HB.out | apply below_alloc | apply pw_below_drewN | apply below_drew1) | exact HB.out)⟩⟩
  case rest =>
    clear HC3
    try clear c1
    try clear p2
    try clear c4
    try clear c4b0
    try clear c4b1
    obtain ⟨kq, x24_2, rfl, HA, HJ2, HB⟩ := hcut
    cases kq with
    | zero => exact absurd HA.out (by simp [lookoutlaw09_DeltacolBack.j0])
    | succ kj2 =>
      have H := HA.out
      clear HA
      simp only [lookoutlaw09_DeltacolBack.j0] at H
      by_cases c5 : x24_2 = true
      · subst c5
        have H1 : ((lookoutlaw09_awake.f kj2).bind fun t162 => (some t162)) = some r := by rw [if_pos rfl] at H; exact H
        clear H
        have H := H1
        clear H1
        replace H := Option.bind_eq_some_iff.mp H
        obtain ⟨t162, A60, H⟩ := H
        replace H : (some t162) = some r := H
        have A6 := Aside0.mk A60
        clear A60
        obtain rfl := Option.some.inj H
        go_wp2_with (first | ((with_reducible refine gate_callee (f := 6) rfl ?_); refine goesL_ (some 25) rfl rfl Try.func6 (by kernel_rfl) rfl #[] rfl (by (try simp only [List.map_toArray, List.map_cons, List.map_nil]); first | done | rfl | (simp only [List.length_drop, List.length_take]; rfl)) ?_; (with_reducible refine (lookoutlaw09_awake.calls kj2  t162 _ A6.out).mono ?_); rintro e w7 ⟨rfl, hb⟩; refine ⟨_, rfl, ?_⟩; have n0_ := Aside0.mk (below_step (by repeat (first | (with_reducible first | exact HB.out | apply below_alloc | apply pw_below_drewN | apply below_drew1) | exact HB.out)) hb); clear HB; have HB := n0_; clear n0_; (try clear hb); (try clear hb2); (try clear hk); (try clear hi)))
        go_ret
        exact ⟨by first | rfl | (simp [errW_none, errW_some] <;> rfl) | (simp [*, errW_none, errW_some] <;> rfl), by repeat (first | (with_reducible first | exact HB.out | apply below_alloc | apply pw_below_drewN | apply below_drew1) | exact HB.out)⟩
      · replace c5 := Bool.eq_false_iff.mpr c5
        subst c5
        have H1 : ((deltacol_EncodeTimes.f kj2 l0).bind fun bt163 => (if bt163.2 = 0 then ((deltacol_DecodeTimes.f kj2 bt163.1).bind fun bt165 => ((deltacol_Count.f bt163.1).bind fun bt169 => (if bt165.2 = 0 then (if bt169.2 = 0 then (if bt169.1 = (l0.length : Int) then ((slices_Equal_int_int.f kj2 bt165.1 l0).bind fun t171 => (if t171 = true then (lookoutlaw09_DeltacolBack.j1 kj2 l1) else (none))) else (none)) else (none)) else (none)))) else (lookoutlaw09_DeltacolBack.j1 kj2 l1))) = some r := by rw [if_neg (show ¬ (false = true) by decide)] at H; exact H
        clear H
        have H := H1
        clear H1
        replace H := Option.bind_eq_some_iff.mp H
        obtain ⟨⟨t163, t164⟩, A80, H⟩ := H
        replace H : (if t164 = 0 then ((deltacol_DecodeTimes.f kj2 t163).bind fun bt165 => ((deltacol_Count.f t163).bind fun bt169 => (if bt165.2 = 0 then (if bt169.2 = 0 then (if bt169.1 = (l0.length : Int) then ((slices_Equal_int_int.f kj2 bt165.1 l0).bind fun t171 => (if t171 = true then (lookoutlaw09_DeltacolBack.j1 kj2 l1) else (none))) else (none)) else (none)) else (none)))) else (lookoutlaw09_DeltacolBack.j1 kj2 l1)) = some r := H
        have A8 := Aside0.mk A80
        clear A80
        have HC9 := Aside0.mk H
        clear H
        go_upto_if 32 with (first | ((with_reducible refine gate_callee (f := 8) rfl ?_); refine goesL_ (some 28) rfl rfl Try.func8 (by kernel_rfl) rfl #[.slice A0 l0.length c0] rfl (by (try simp only [List.map_toArray, List.map_cons, List.map_nil]); first | done | rfl | (simp only [List.length_drop, List.length_take]; rfl)) ?_; (with_reducible refine (deltacol_EncodeTimes.calls kj2 _ _ l0 t163 t164 _ ?side1 ?side2 A8.out).mono ?_); (case side1 => repeat (first | exact (Kd.C_below HR0.out HB.out) | (with_reducible refine Kd.C_alloc ?_ _) | (with_reducible refine Kd.C_drewN ?_ _) | (with_reducible refine Kd.C_drew ?_))); (case side2 => exact HC0.out); rintro e w10 ⟨rfl, hb⟩; refine ⟨_, rfl, ?_⟩; have n0_ := Aside0.mk (below_step (by repeat (first | (with_reducible first | exact HB.out | apply below_alloc | apply pw_below_drewN | apply below_drew1) | exact HB.out)) hb); clear HB; have HB := n0_; clear n0_; (try clear hb); (try clear hb2); (try clear hk); (try clear hi)))
        (try simp only [Act.put, List.setIfInBounds_toArray, List.set_cons_zero, List.set_cons_succ])
        go_cut [] (fun wc => ∃ (kq : Nat), Aside0 (lookoutlaw09_DeltacolBack.j1 kq l1 = some r) ∧ Aside0 (kq ≤ kj2) ∧ Aside0 (Below w.heap.size w wc))
        case first =>
          have H := HC9.out
          clear HC9
          by_cases c11 : t164 = 0
          · rw [if_pos c11] at H
            have c11b0 : (t164 == 0) = true := beq_iff_eq.mpr c11
            have c11b1 : (t164 != 0) = false := bne_eq_false_iff_eq.mpr c11
            clear c11
            (first | rw [c11b0] | (simp only [i64_w, i32_w]; rw [c11b0]) | rw [c11b1] | (simp only [i64_w, i32_w]; rw [c11b1]) | skip)
            replace H := Option.bind_eq_some_iff.mp H
            obtain ⟨⟨t165, t166⟩, A120, H⟩ := H
            replace H : ((deltacol_Count.f t163).bind fun bt169 => (if t166 = 0 then (if bt169.2 = 0 then (if bt169.1 = (l0.length : Int) then ((slices_Equal_int_int.f kj2 t165 l0).bind fun t171 => (if t171 = true then (lookoutlaw09_DeltacolBack.j1 kj2 l1) else (none))) else (none)) else (none)) else (none))) = some r := H
            have A12 := Aside0.mk A120
            clear A120
            replace H := Option.bind_eq_some_iff.mp H
            obtain ⟨⟨t169, t170⟩, A130, H⟩ := H
            replace H : (if t166 = 0 then (if t170 = 0 then (if t169 = (l0.length : Int) then ((slices_Equal_int_int.f kj2 t165 l0).bind fun t171 => (if t171 = true then (lookoutlaw09_DeltacolBack.j1 kj2 l1) else (none))) else (none)) else (none)) else (none)) = some r := H
            have A13 := Aside0.mk A130
            clear A130
            by_cases c14 : t166 = 0
            · rw [if_pos c14] at H
              have c14b0 : (t166 == 0) = true := beq_iff_eq.mpr c14
              have c14b1 : (t166 != 0) = false := bne_eq_false_iff_eq.mpr c14
              clear c14
              by_cases c15 : t170 = 0
              · rw [if_pos c15] at H
                have c15b0 : (t170 == 0) = true := beq_iff_eq.mpr c15
                have c15b1 : (t170 != 0) = false := bne_eq_false_iff_eq.mpr c15
                clear c15
                by_cases c16 : t169 = (l0.length : Int)
                · rw [if_pos c16] at H
                  have c16b0 : (t169 == (l0.length : Int)) = true := beq_iff_eq.mpr c16
                  have c16b1 : (t169 != (l0.length : Int)) = false := bne_eq_false_iff_eq.mpr c16
                  clear c16
                  replace H := Option.bind_eq_some_iff.mp H
                  obtain ⟨t171, A170, H⟩ := H
                  replace H : (if t171 = true then (lookoutlaw09_DeltacolBack.j1 kj2 l1) else (none)) = some r := H
                  have A17 := Aside0.mk A170
                  clear A170
                  by_cases c18 : t171 = true
                  · subst c18
                    have H1 : (lookoutlaw09_DeltacolBack.j1 kj2 l1) = some r := by rw [if_pos rfl] at H; exact H
                    clear H
                    have H := H1
                    clear H1
                    have H' := Aside0.mk H
                    clear H
                    go_wp2_with (first | ((with_reducible refine gate_callee (f := 12) rfl ?_); refine goesL_ (some 35) rfl rfl Try.func12 (by kernel_rfl) rfl #[.string t163] rfl (by (try simp only [List.map_toArray, List.map_cons, List.map_nil]); first | done | rfl | (simp only [List.length_drop, List.length_take]; rfl)) ?_; (with_reducible refine (deltacol_DecodeTimes.calls kj2 t163 t165 t166 _ A12.out).mono ?_); rintro e w19 ⟨v167, rfl, ho0, hb⟩; refine ⟨_, rfl, ?_⟩; have n0_ := Aside0.mk (Kd.R_lower ho0 (below_size (by repeat (first | (with_reducible first | exact HB.out | apply below_alloc | apply pw_below_drewN | apply below_drew1) | exact HB.out)))); have n1_ := Aside0.mk (below_step (by repeat (first | (with_reducible first | exact HB.out | apply below_alloc | apply pw_below_drewN | apply below_drew1) | exact HB.out)) hb); clear HB; have HO168 := n0_; have HB := n1_; clear n0_ n1_; (try clear hb); (try clear hb2); (try clear hk); (try clear hi); (try clear ho0)) | ((with_reducible refine gate_callee (f := 13) rfl ?_); refine goesL_ (some 40) rfl rfl Try.func13 (by kernel_rfl) rfl #[.string t163] rfl (by (try simp only [List.map_toArray, List.map_cons, List.map_nil]); first | done | rfl | (simp only [List.length_drop, List.length_take]; rfl)) ?_; (with_reducible refine (deltacol_Count.calls t163 t169 t170 _ A13.out).mono ?_); rintro e w20 ⟨rfl, hb⟩; refine ⟨_, rfl, ?_⟩; have n0_ := Aside0.mk (Kd.R_below (by (with_reducible repeat (first | apply Kd.R_alloc | apply Kd.R_drewN | apply Kd.R_drew)); exact HO168.out) hb); have n1_ := Aside0.mk (below_step (by repeat (first | (with_reducible first | exact HB.out | apply below_alloc | apply pw_below_drewN | apply below_drew1) | exact HB.out)) hb); clear HO168; clear HB; have HO168 := n0_; have HB := n1_; clear n0_ n1_; (try clear hb); (try clear hb2); (try clear hk); (try clear hi); obtain ⟨Ao21, co21, eo21⟩ := Kd.R_slice HO168.out; subst eo21) | (go_at_call 14; (with_reducible refine (slices_Equal_int_int.calls kj2 _ _ t165 _ _ l0 true _ ?side1 ?side2 ?side3 ?side4 A17.out).mono ?_); (case side1 => repeat (first | exact (Kd.R_reads' HO168.out).2.2 | (with_reducible refine Kd.C_alloc ?_ _) | (with_reducible refine Kd.C_drewN ?_ _) | (with_reducible refine Kd.C_drew ?_))); (case side2 => exact (Kd.R_reads' HO168.out).2.1); (case side3 => repeat (first | exact (Kd.C_below HR0.out HB.out) | (with_reducible refine Kd.C_alloc ?_ _) | (with_reducible refine Kd.C_drewN ?_ _) | (with_reducible refine Kd.C_drew ?_))); (case side4 => exact HC0.out); rintro e w' ⟨rfl, ⟨nd, rfl⟩⟩))
                    go_meet
                    case rel => exact ⟨_, H', ⟨by have := HJ2.out; first | omega | exact Nat.le_refl _⟩, ⟨by repeat (first | (with_reducible first | exact HB.out | apply below_alloc | apply pw_below_drewN | apply below_drew1) | exact HB.out)⟩⟩
                  · replace c18 := Bool.eq_false_iff.mpr c18
                    subst c18
                    have H1 : (none) = some r := by rw [if_neg (show ¬ (false = true) by decide)] at H; exact H
                    clear H
                    have H := H1
                    clear H1
                    exact absurd H (by simp)
                · rw [if_neg c16] at H
                  exact absurd H (by simp)
              · rw [if_neg c15] at H
                exact absurd H (by simp)
            · rw [if_neg c14] at H
              exact absurd H (by simp)
          · rw [if_neg c11] at H
            have c11b0 : (t164 == 0) = false := beq_eq_false_iff_ne.mpr c11
            have c11b1 : (t164 != 0) = true := bne_iff_ne.mpr c11
            (first | rw [c11b0] | (simp only [i64_w, i32_w]; rw [c11b0]) | rw [c11b1] | (simp only [i64_w, i32_w]; rw [c11b1]) | skip)
            have H' := Aside0.mk H
            clear H
            go_wp2
            go_meet
            case rel => exact ⟨_, H', ⟨by have := HJ2.out; first | omega | exact Nat.le_refl _⟩, ⟨by repeat (first | (with_reducible first | exact HB.out | apply below_alloc | apply pw_below_drewN | apply below_drew1) | exact HB.out)⟩⟩
        case rest =>
          clear HC9
          try clear c1
          try clear p2
          try clear c4
          try clear c4b0
          try clear c4b1
          try clear c5
          try clear c6
          try clear c8
          try clear c11
          try clear c11b0
          try clear c11b1
          try clear c12
          try clear c13
          try clear c14
          try clear c14b0
          try clear c14b1
          try clear c15
          try clear c15b0
          try clear c15b1
          try clear c16
          try clear c16b0
          try clear c16b1
          try clear c18
          try clear p2
          obtain ⟨kq, HA, HJ8, HB⟩ := hcut
          cases kq with
          | zero => exact absurd HA.out (by simp [lookoutlaw09_DeltacolBack.j1])
          | succ kj8 =>
            have H := HA.out
            clear HA
            simp only [lookoutlaw09_DeltacolBack.j1] at H
            replace H := Option.bind_eq_some_iff.mp H
            obtain ⟨⟨t172, t173⟩, A220, H⟩ := H
            replace H : (if t173 = 0 then ((deltacol_DecodeValues.f kj8 t172).bind fun bt174 => ((deltacol_Count.f t172).bind fun bt178 => (if bt174.2 = 0 then (if bt178.2 = 0 then (if bt178.1 = (l1.length : Int) then ((slices_Equal_int_int.f kj8 bt174.1 l1).bind fun t180 => (if t180 = true then ((lookoutlaw09_awake.f kj8).bind fun t181 => (some t181)) else (none))) else (none)) else (none)) else (none)))) else ((lookoutlaw09_awake.f kj8).bind fun t182 => (some t182))) = some r := H
            have A22 := Aside0.mk A220
            clear A220
            by_cases c23 : t173 = 0
            · rw [if_pos c23] at H
              have c23b0 : (t173 == 0) = true := beq_iff_eq.mpr c23
              have c23b1 : (t173 != 0) = false := bne_eq_false_iff_eq.mpr c23
              clear c23
              replace H := Option.bind_eq_some_iff.mp H
              obtain ⟨⟨t174, t175⟩, A240, H⟩ := H
              replace H : ((deltacol_Count.f t172).bind fun bt178 => (if t175 = 0 then (if bt178.2 = 0 then (if bt178.1 = (l1.length : Int) then ((slices_Equal_int_int.f kj8 t174 l1).bind fun t180 => (if t180 = true then ((lookoutlaw09_awake.f kj8).bind fun t181 => (some t181)) else (none))) else (none)) else (none)) else (none))) = some r := H
              have A24 := Aside0.mk A240
              clear A240
              replace H := Option.bind_eq_some_iff.mp H
              obtain ⟨⟨t178, t179⟩, A250, H⟩ := H
              replace H : (if t175 = 0 then (if t179 = 0 then (if t178 = (l1.length : Int) then ((slices_Equal_int_int.f kj8 t174 l1).bind fun t180 => (if t180 = true then ((lookoutlaw09_awake.f kj8).bind fun t181 => (some t181)) else (none))) else (none)) else (none)) else (none)) = some r := H
              have A25 := Aside0.mk A250
              clear A250
              by_cases c26 : t175 = 0
              · rw [if_pos c26] at H
                have c26b0 : (t175 == 0) = true := beq_iff_eq.mpr c26
                have c26b1 : (t175 != 0) = false := bne_eq_false_iff_eq.mpr c26
                clear c26
                by_cases c27 : t179 = 0
                · rw [if_pos c27] at H
                  have c27b0 : (t179 == 0) = true := beq_iff_eq.mpr c27
                  have c27b1 : (t179 != 0) = false := bne_eq_false_iff_eq.mpr c27
                  clear c27
                  by_cases c28 : t178 = (l1.length : Int)
                  · rw [if_pos c28] at H
                    have c28b0 : (t178 == (l1.length : Int)) = true := beq_iff_eq.mpr c28
                    have c28b1 : (t178 != (l1.length : Int)) = false := bne_eq_false_iff_eq.mpr c28
                    clear c28
                    replace H := Option.bind_eq_some_iff.mp H
                    obtain ⟨t180, A290, H⟩ := H
                    replace H : (if t180 = true then ((lookoutlaw09_awake.f kj8).bind fun t181 => (some t181)) else (none)) = some r := H
                    have A29 := Aside0.mk A290
                    clear A290
                    by_cases c30 : t180 = true
                    · subst c30
                      have H1 : ((lookoutlaw09_awake.f kj8).bind fun t181 => (some t181)) = some r := by rw [if_pos rfl] at H; exact H
                      clear H
                      have H := H1
                      clear H1
                      replace H := Option.bind_eq_some_iff.mp H
                      obtain ⟨t181, A310, H⟩ := H
                      replace H : (some t181) = some r := H
                      have A31 := Aside0.mk A310
                      clear A310
                      obtain rfl := Option.some.inj H
                      go_wp2_with (first | ((with_reducible refine gate_callee (f := 9) rfl ?_); refine goesL_ (some 63) rfl rfl Try.func9 (by kernel_rfl) rfl #[.slice A1 l1.length c1] rfl (by (try simp only [List.map_toArray, List.map_cons, List.map_nil]); first | done | rfl | (simp only [List.length_drop, List.length_take]; rfl)) ?_; (with_reducible refine (deltacol_EncodeValues.calls kj8 _ _ l1 t172 t173 _ ?side1 ?side2 A22.out).mono ?_); (case side1 => repeat (first | exact (Kd.C_below HR1.out HB.out) | (with_reducible refine Kd.C_alloc ?_ _) | (with_reducible refine Kd.C_drewN ?_ _) | (with_reducible refine Kd.C_drew ?_))); (case side2 => exact HC1.out); rintro e w32 ⟨rfl, hb⟩; refine ⟨_, rfl, ?_⟩; have n0_ := Aside0.mk (below_step (by repeat (first | (with_reducible first | exact HB.out | apply below_alloc | apply pw_below_drewN | apply below_drew1) | exact HB.out)) hb); clear HB; have HB := n0_; clear n0_; (try clear hb); (try clear hb2); (try clear hk); (try clear hi)) | ((with_reducible refine gate_callee (f := 15) rfl ?_); refine goesL_ (some 70) rfl rfl Try.func15 (by kernel_rfl) rfl #[.string t172] rfl (by (try simp only [List.map_toArray, List.map_cons, List.map_nil]); first | done | rfl | (simp only [List.length_drop, List.length_take]; rfl)) ?_; (with_reducible refine (deltacol_DecodeValues.calls kj8 t172 t174 t175 _ A24.out).mono ?_); rintro e w33 ⟨v176, rfl, ho0, hb⟩; refine ⟨_, rfl, ?_⟩; have n0_ := Aside0.mk (Kd.R_lower ho0 (below_size (by repeat (first | (with_reducible first | exact HB.out | apply below_alloc | apply pw_below_drewN | apply below_drew1) | exact HB.out)))); have n1_ := Aside0.mk (below_step (by repeat (first | (with_reducible first | exact HB.out | apply below_alloc | apply pw_below_drewN | apply below_drew1) | exact HB.out)) hb); clear HB; have HO177 := n0_; have HB := n1_; clear n0_ n1_; (try clear hb); (try clear hb2); (try clear hk); (try clear hi); (try clear ho0)) | ((with_reducible refine gate_callee (f := 13) rfl ?_); refine goesL_ (some 75) rfl rfl Try.func13 (by kernel_rfl) rfl #[.string t172] rfl (by (try simp only [List.map_toArray, List.map_cons, List.map_nil]); first | done | rfl | (simp only [List.length_drop, List.length_take]; rfl)) ?_; (with_reducible refine (deltacol_Count.calls t172 t178 t179 _ A25.out).mono ?_); rintro e w34 ⟨rfl, hb⟩; refine ⟨_, rfl, ?_⟩; have n0_ := Aside0.mk (Kd.R_below (by (with_reducible repeat (first | apply Kd.R_alloc | apply Kd.R_drewN | apply Kd.R_drew)); exact HO177.out) hb); have n1_ := Aside0.mk (below_step (by repeat (first | (with_reducible first | exact HB.out | apply below_alloc | apply pw_below_drewN | apply below_drew1) | exact HB.out)) hb); clear HO177; clear HB; have HO177 := n0_; have HB := n1_; clear n0_ n1_; (try clear hb); (try clear hb2); (try clear hk); (try clear hi); obtain ⟨Ao35, co35, eo35⟩ := Kd.R_slice HO177.out; subst eo35) | (go_at_call 14; (with_reducible refine (slices_Equal_int_int.calls kj8 _ _ t174 _ _ l1 true _ ?side1 ?side2 ?side3 ?side4 A29.out).mono ?_); (case side1 => repeat (first | exact (Kd.R_reads' HO177.out).2.2 | (with_reducible refine Kd.C_alloc ?_ _) | (with_reducible refine Kd.C_drewN ?_ _) | (with_reducible refine Kd.C_drew ?_))); (case side2 => exact (Kd.R_reads' HO177.out).2.1); (case side3 => repeat (first | exact (Kd.C_below HR1.out HB.out) | (with_reducible refine Kd.C_alloc ?_ _) | (with_reducible refine Kd.C_drewN ?_ _) | (with_reducible refine Kd.C_drew ?_))); (case side4 => exact HC1.out); rintro e w' ⟨rfl, ⟨nd, rfl⟩⟩) | ((with_reducible refine gate_callee (f := 6) rfl ?_); refine goesL_ (some 96) rfl rfl Try.func6 (by kernel_rfl) rfl #[] rfl (by (try simp only [List.map_toArray, List.map_cons, List.map_nil]); first | done | rfl | (simp only [List.length_drop, List.length_take]; rfl)) ?_; (with_reducible refine (lookoutlaw09_awake.calls kj8  t181 _ A31.out).mono ?_); rintro e w36 ⟨rfl, hb⟩; refine ⟨_, rfl, ?_⟩; have n0_ := Aside0.mk (Kd.R_below (by (with_reducible repeat (first | apply Kd.R_alloc | apply Kd.R_drewN | apply Kd.R_drew)); exact HO177.out) hb); have n1_ := Aside0.mk (below_step (by repeat (first | (with_reducible first | exact HB.out | apply below_alloc | apply pw_below_drewN | apply below_drew1) | exact HB.out)) hb); clear HO177; clear HB; have HO177 := n0_; have HB := n1_; clear n0_ n1_; (try clear hb); (try clear hb2); (try clear hk); (try clear hi)))
                      go_ret
                      exact ⟨by first | rfl | (simp [errW_none, errW_some] <;> rfl) | (simp [*, errW_none, errW_some] <;> rfl), by repeat (first | (with_reducible first | exact HB.out | apply below_alloc | apply pw_below_drewN | apply below_drew1) | exact HB.out)⟩
                    · replace c30 := Bool.eq_false_iff.mpr c30
                      subst c30
                      have H1 : (none) = some r := by rw [if_neg (show ¬ (false = true) by decide)] at H; exact H
                      clear H
                      have H := H1
                      clear H1
                      exact absurd H (by simp)
                  · rw [if_neg c28] at H
                    exact absurd H (by simp)
                · rw [if_neg c27] at H
                  exact absurd H (by simp)
              · rw [if_neg c26] at H
                exact absurd H (by simp)
            · rw [if_neg c23] at H
              have c23b0 : (t173 == 0) = false := beq_eq_false_iff_ne.mpr c23
              have c23b1 : (t173 != 0) = true := bne_iff_ne.mpr c23
              replace H := Option.bind_eq_some_iff.mp H
              obtain ⟨t182, A370, H⟩ := H
              replace H : (some t182) = some r := H
              have A37 := Aside0.mk A370
              clear A370
              obtain rfl := Option.some.inj H
              go_wp2_with (first | ((with_reducible refine gate_callee (f := 9) rfl ?_); refine goesL_ (some 63) rfl rfl Try.func9 (by kernel_rfl) rfl #[.slice A1 l1.length c1] rfl (by (try simp only [List.map_toArray, List.map_cons, List.map_nil]); first | done | rfl | (simp only [List.length_drop, List.length_take]; rfl)) ?_; (with_reducible refine (deltacol_EncodeValues.calls kj8 _ _ l1 t172 t173 _ ?side1 ?side2 A22.out).mono ?_); (case side1 => repeat (first | exact (Kd.C_below HR1.out HB.out) | (with_reducible refine Kd.C_alloc ?_ _) | (with_reducible refine Kd.C_drewN ?_ _) | (with_reducible refine Kd.C_drew ?_))); (case side2 => exact HC1.out); rintro e w38 ⟨rfl, hb⟩; refine ⟨_, rfl, ?_⟩; have n0_ := Aside0.mk (below_step (by repeat (first | (with_reducible first | exact HB.out | apply below_alloc | apply pw_below_drewN | apply below_drew1) | exact HB.out)) hb); clear HB; have HB := n0_; clear n0_; (try clear hb); (try clear hb2); (try clear hk); (try clear hi)) | ((with_reducible refine gate_callee (f := 6) rfl ?_); refine goesL_ (some 96) rfl rfl Try.func6 (by kernel_rfl) rfl #[] rfl (by (try simp only [List.map_toArray, List.map_cons, List.map_nil]); first | done | rfl | (simp only [List.length_drop, List.length_take]; rfl)) ?_; (with_reducible refine (lookoutlaw09_awake.calls kj8  t182 _ A37.out).mono ?_); rintro e w39 ⟨rfl, hb⟩; refine ⟨_, rfl, ?_⟩; have n0_ := Aside0.mk (below_step (by repeat (first | (with_reducible first | exact HB.out | apply below_alloc | apply pw_below_drewN | apply below_drew1) | exact HB.out)) hb); clear HB; have HB := n0_; clear n0_; (try clear hb); (try clear hb2); (try clear hk); (try clear hi)))
              go_ret
              exact ⟨by first | rfl | (simp [errW_none, errW_some] <;> rfl) | (simp [*, errW_none, errW_some] <;> rfl), by repeat (first | (with_reducible first | exact HB.out | apply below_alloc | apply pw_below_drewN | apply below_drew1) | exact HB.out)⟩

/-- THE ONE PURE STATEMENT of lookoutlaw09_DeltacolBack. -/
def lookoutlaw09_DeltacolBack.Pure : Prop := ∀ (l0 : List Int) (l1 : List Int), l0.length ≤ maxLen → l0.length * 8 ≤ 140737488351232 → (∀ x ∈ l0, (Lit.int .i64 x).wf = true) → l1.length ≤ maxLen → l1.length * 8 ≤ 140737488351232 → (∀ x ∈ l1, (Lit.int .i64 x).wf = true) → ∃ k, lookoutlaw09_DeltacolBack.f k l0 l1 = some true

end Go.Proofs.Ytbihedcjcmcjaaa.P
