/- Printed by a program of this session: functions of the law's Go code as Lean functions, and that the Go code computes them. No condition beyond those in the statements. -/
import Derived.Test.YtfklecicddpcjaaQA
namespace Go.Proofs.Ytfklecicddpcjaa.Q
open Go.RowKit Go.Proofs.YtfklecicddpcjaaW.PrintWords Go.Proofs.YtfklecicddpcjaaW.PrintLast Go.Proofs.YtfklecicddpcjaaW.PrintMore Go.Proofs.Ytfklecicddpcjaa.Hand Go.Proofs.Ytfklecicddpcjaa.A Go.Proofs.Ytfklecicddpcjaa.P
attribute [local go_sem] max2_int min2_int max_two min_two max_three min_three max_four min_four   -- for this text's walks alone
set_option linter.unusedVariables false
set_option linter.unusedSimpArgs false

/-! ### lookoutlaw10_DictcolDistinct: function 9 -/
mutual
def lookoutlaw10_DictcolDistinct.j0 : Nat → List ByteArray → ByteArray → Int → ByteArray → Int → Bool → Option (Bool)
  | 0, _, _, _, _, _, _ => none
  | k + 1, x0, x3, x4, x6, x7, x38 => if x38 = true then (if x4 = x7 then ((lookoutlaw10_awake.f k).bind fun t261 => (some t261)) else (none)) else ((dictcol_Distinct.f k x3).bind fun bt262 => ((dictcol_Distinct.f k x6).bind fun bt266 => (lookoutlaw10_DictcolDistinct.l0 k x0 bt262.1 bt262.2 bt266.1 bt266.2 bt262.1 (bt262.1.length : Int) 0)))
def lookoutlaw10_DictcolDistinct.l0 : Nat → List ByteArray → List ByteArray → Int → List ByteArray → Int → List ByteArray → Int → Int → Option (Bool)
  | 0, _, _, _, _, _, _, _, _ => none
  | k + 1, x0, x8, x9, x10, x11, x55, x56, x57 => if x57 < x56 then (if 0 ≤ x57 then (if x57 < (x55.length : Int) then ((slices_Contains_string_string.f k x0 (rdOf ByteArray.empty x55 x57)).bind fun t271 => (if t271 = true then (if x57 > 0 then (if 0 ≤ (wrap64 (x57 - 1)) then (if (wrap64 (x57 - 1)) < (x8.length : Int) then (if ((Op.bytesLess ((rdOf ByteArray.empty x8 (wrap64 (x57 - 1))).toList) ((rdOf ByteArray.empty x55 x57).toList)) = true) then (lookoutlaw10_DictcolDistinct.l0 k x0 x8 x9 x10 x11 x55 x56 (wrap64 (x57 + 1))) else (none)) else (none)) else (none)) else (lookoutlaw10_DictcolDistinct.l0 k x0 x8 x9 x10 x11 x55 x56 (wrap64 (x57 + 1)))) else (none))) else (none)) else (none)) else (lookoutlaw10_DictcolDistinct.l1 k x8 x9 x10 x11 x0 (x0.length : Int) 0)
def lookoutlaw10_DictcolDistinct.l1 : Nat → List ByteArray → Int → List ByteArray → Int → List ByteArray → Int → Int → Option (Bool)
  | 0, _, _, _, _, _, _, _ => none
  | k + 1, x8, x9, x10, x11, x80, x81, x82 => if x82 < x81 then (if 0 ≤ x82 then (if x82 < (x80.length : Int) then ((slices_Contains_string_string.f k x8 (rdOf ByteArray.empty x80 x82)).bind fun t274 => (if t274 = true then (lookoutlaw10_DictcolDistinct.l1 k x8 x9 x10 x11 x80 x81 (wrap64 (x82 + 1))) else (none))) else (none)) else (none)) else (if x9 = 0 then (if x11 = 0 then ((lookoutref10_Same.f k x10 x8).bind fun t275 => (if t275 = true then ((lookoutlaw10_awake.f k).bind fun t276 => (some t276)) else (none))) else (none)) else (none))
end
def lookoutlaw10_DictcolDistinct.f (k : Nat) (l0 : List ByteArray) : Option (Bool) := (lookoutref10_Great.f k l0).bind fun t251 => (if t251 = true then ((lookoutlaw10_awake.f k).bind fun t252 => (some t252)) else ((dictcol_Encode.f k l0).bind fun bt253 => ((clone_str.f l0).bind fun t255 => ((rev_str.f t255).bind fun t258 => ((dictcol_Encode.f k t258).bind fun bt259 => (if bt253.2 = 0 then (lookoutlaw10_DictcolDistinct.j0 k l0 bt253.1 bt253.2 bt259.1 bt259.2 (bt259.2 != 0)) else (lookoutlaw10_DictcolDistinct.j0 k l0 bt253.1 bt253.2 bt259.1 bt259.2 true)))))))
theorem lookoutlaw10_DictcolDistinct.mono_l : ∀ k, (∀ y0 y1 y2 y3 y4 y5, LeO (lookoutlaw10_DictcolDistinct.j0 k y0 y1 y2 y3 y4 y5) (lookoutlaw10_DictcolDistinct.j0 (k + 1) y0 y1 y2 y3 y4 y5)) ∧ (∀ y0 y1 y2 y3 y4 y5 y6 y7, LeO (lookoutlaw10_DictcolDistinct.l0 k y0 y1 y2 y3 y4 y5 y6 y7) (lookoutlaw10_DictcolDistinct.l0 (k + 1) y0 y1 y2 y3 y4 y5 y6 y7)) ∧ (∀ y0 y1 y2 y3 y4 y5 y6, LeO (lookoutlaw10_DictcolDistinct.l1 k y0 y1 y2 y3 y4 y5 y6) (lookoutlaw10_DictcolDistinct.l1 (k + 1) y0 y1 y2 y3 y4 y5 y6))
  | 0 => ⟨fun _ _ _ _ _ _ r h => by simp [lookoutlaw10_DictcolDistinct.j0] at h, fun _ _ _ _ _ _ _ _ r h => by simp [lookoutlaw10_DictcolDistinct.l0] at h, fun _ _ _ _ _ _ _ r h => by simp [lookoutlaw10_DictcolDistinct.l1] at h⟩
  | k + 1 => by
    obtain ⟨ih0, ih1, ih2⟩ := lookoutlaw10_DictcolDistinct.mono_l k
    refine ⟨?_, ?_, ?_⟩
    · intro y0 y1 y2 y3 y4 y5
      unfold lookoutlaw10_DictcolDistinct.j0
      repeat' first
      | (with_reducible exact ih0 _ _ _ _ _ _)
      | (with_reducible exact ih1 _ _ _ _ _ _ _ _)
      | (with_reducible exact ih2 _ _ _ _ _ _ _)
      | (with_reducible exact dictcol_Distinct.mono _ _)
      | (with_reducible exact dictcol_Encode.mono _ _)
      | (with_reducible exact lookoutlaw10_awake.mono _)
      | (with_reducible exact lookoutref10_Great.mono _ _)
      | (with_reducible exact lookoutref10_Same.mono _ _ _)
      | (with_reducible exact slices_Contains_string_string.mono _ _ _)
      | (with_reducible exact LeO.refl _)
      | (with_reducible exact LeO.none _)
      | (with_reducible refine LeO.ite ?_ ?_)
      | (with_reducible refine LeO.bind ?_ (fun _ => ?_))
      | exact ih0 _ _ _ _ _ _
      | exact ih1 _ _ _ _ _ _ _ _
      | exact ih2 _ _ _ _ _ _ _
      | exact dictcol_Distinct.mono _ _
      | exact dictcol_Encode.mono _ _
      | exact lookoutlaw10_awake.mono _
      | exact lookoutref10_Great.mono _ _
      | exact lookoutref10_Same.mono _ _ _
      | exact slices_Contains_string_string.mono _ _ _
      | exact LeO.none _
      | refine LeO.ite ?_ ?_
      | refine LeO.bind ?_ (fun _ => ?_)
    · intro y0 y1 y2 y3 y4 y5 y6 y7
      unfold lookoutlaw10_DictcolDistinct.l0
      repeat' first
      | (with_reducible exact ih0 _ _ _ _ _ _)
      | (with_reducible exact ih1 _ _ _ _ _ _ _ _)
      | (with_reducible exact ih2 _ _ _ _ _ _ _)
      | (with_reducible exact dictcol_Distinct.mono _ _)
      | (with_reducible exact dictcol_Encode.mono _ _)
      | (with_reducible exact lookoutlaw10_awake.mono _)
      | (with_reducible exact lookoutref10_Great.mono _ _)
      | (with_reducible exact lookoutref10_Same.mono _ _ _)
      | (with_reducible exact slices_Contains_string_string.mono _ _ _)
      | (with_reducible exact LeO.refl _)
      | (with_reducible exact LeO.none _)
      | (with_reducible refine LeO.ite ?_ ?_)
      | (with_reducible refine LeO.bind ?_ (fun _ => ?_))
      | exact ih0 _ _ _ _ _ _
      | exact ih1 _ _ _ _ _ _ _ _
      | exact ih2 _ _ _ _ _ _ _
      | exact dictcol_Distinct.mono _ _
      | exact dictcol_Encode.mono _ _
      | exact lookoutlaw10_awake.mono _
      | exact lookoutref10_Great.mono _ _
      | exact lookoutref10_Same.mono _ _ _
      | exact slices_Contains_string_string.mono _ _ _
      | exact LeO.none _
      | refine LeO.ite ?_ ?_
      | refine LeO.bind ?_ (fun _ => ?_)
    · intro y0 y1 y2 y3 y4 y5 y6
      unfold lookoutlaw10_DictcolDistinct.l1
      repeat' first
      | (with_reducible exact ih0 _ _ _ _ _ _)
      | (with_reducible exact ih1 _ _ _ _ _ _ _ _)
      | (with_reducible exact ih2 _ _ _ _ _ _ _)
      | (with_reducible exact dictcol_Distinct.mono _ _)
      | (with_reducible exact dictcol_Encode.mono _ _)
      | (with_reducible exact lookoutlaw10_awake.mono _)
      | (with_reducible exact lookoutref10_Great.mono _ _)
      | (with_reducible exact lookoutref10_Same.mono _ _ _)
      | (with_reducible exact slices_Contains_string_string.mono _ _ _)
      | (with_reducible exact LeO.refl _)
      | (with_reducible exact LeO.none _)
      | (with_reducible refine LeO.ite ?_ ?_)
      | (with_reducible refine LeO.bind ?_ (fun _ => ?_))
      | exact ih0 _ _ _ _ _ _
      | exact ih1 _ _ _ _ _ _ _ _
      | exact ih2 _ _ _ _ _ _ _
      | exact dictcol_Distinct.mono _ _
      | exact dictcol_Encode.mono _ _
      | exact lookoutlaw10_awake.mono _
      | exact lookoutref10_Great.mono _ _
      | exact lookoutref10_Same.mono _ _ _
      | exact slices_Contains_string_string.mono _ _ _
      | exact LeO.none _
      | refine LeO.ite ?_ ?_
      | refine LeO.bind ?_ (fun _ => ?_)
theorem lookoutlaw10_DictcolDistinct.mono : ∀ a0 k, LeO (lookoutlaw10_DictcolDistinct.f k a0) (lookoutlaw10_DictcolDistinct.f (k + 1) a0) := by
  intro a0 k
  obtain ⟨ih0, ih1, ih2⟩ := lookoutlaw10_DictcolDistinct.mono_l k
  unfold lookoutlaw10_DictcolDistinct.f
  repeat' first
      | (with_reducible exact ih0 _ _ _ _ _ _)
      | (with_reducible exact ih1 _ _ _ _ _ _ _ _)
      | (with_reducible exact ih2 _ _ _ _ _ _ _)
      | (with_reducible exact dictcol_Distinct.mono _ _)
      | (with_reducible exact dictcol_Encode.mono _ _)
      | (with_reducible exact lookoutlaw10_awake.mono _)
      | (with_reducible exact lookoutref10_Great.mono _ _)
      | (with_reducible exact lookoutref10_Same.mono _ _ _)
      | (with_reducible exact slices_Contains_string_string.mono _ _ _)
      | (with_reducible exact LeO.refl _)
      | (with_reducible exact LeO.none _)
      | (with_reducible refine LeO.ite ?_ ?_)
      | (with_reducible refine LeO.bind ?_ (fun _ => ?_))
      | exact ih0 _ _ _ _ _ _
      | exact ih1 _ _ _ _ _ _ _ _
      | exact ih2 _ _ _ _ _ _ _
      | exact dictcol_Distinct.mono _ _
      | exact dictcol_Encode.mono _ _
      | exact lookoutlaw10_awake.mono _
      | exact lookoutref10_Great.mono _ _
      | exact lookoutref10_Same.mono _ _ _
      | exact slices_Contains_string_string.mono _ _ _
      | exact LeO.none _
      | refine LeO.ite ?_ ?_
      | refine LeO.bind ?_ (fun _ => ?_)
set_option maxHeartbeats 8000000 in
set_option maxRecDepth 100000 in
theorem lookoutlaw10_DictcolDistinct.calls (k : Nat) (A0 : Option Addr) (c0 : Nat) (l0 : List ByteArray) (r : Bool) (w : World) (hr0 : Kd.C Kd.string w A0 l0.length l0) (hc0 : l0.length ≤ c0) (h : lookoutlaw10_DictcolDistinct.f k l0 = some r) :
    Calls Try.prog 9 #[.slice A0 l0.length c0] w fun e w' => e = .returned (.bool r) ∧ Below w.heap.size w w' := by
  have HR0 := Aside0.mk hr0
  have HC0 := Aside0.mk hc0
  clear hr0 hc0
  have HB := Aside0.mk (Below.refl w.heap.size w)
  have H : ((lookoutref10_Great.f k l0).bind fun t251 => (if t251 = true then ((lookoutlaw10_awake.f k).bind fun t252 => (some t252)) else ((dictcol_Encode.f k l0).bind fun bt253 => ((clone_str.f l0).bind fun t255 => ((rev_str.f t255).bind fun t258 => ((dictcol_Encode.f k t258).bind fun bt259 => (if bt253.2 = 0 then (lookoutlaw10_DictcolDistinct.j0 k l0 bt253.1 bt253.2 bt259.1 bt259.2 (bt259.2 != 0)) else (lookoutlaw10_DictcolDistinct.j0 k l0 bt253.1 bt253.2 bt259.1 bt259.2 true)))))))) = some r := h
  clear h
  replace H := Option.bind_eq_some_iff.mp H
  obtain ⟨t251, A20, H⟩ := H
  replace H : (if t251 = true then ((lookoutlaw10_awake.f k).bind fun t252 => (some t252)) else ((dictcol_Encode.f k l0).bind fun bt253 => ((clone_str.f l0).bind fun t255 => ((rev_str.f t255).bind fun t258 => ((dictcol_Encode.f k t258).bind fun bt259 => (if bt253.2 = 0 then (lookoutlaw10_DictcolDistinct.j0 k l0 bt253.1 bt253.2 bt259.1 bt259.2 (bt259.2 != 0)) else (lookoutlaw10_DictcolDistinct.j0 k l0 bt253.1 bt253.2 bt259.1 bt259.2 true))))))) = some r := H
  have A2 := Aside0.mk A20
  clear A20
  by_cases c3 : t251 = true
  · subst c3
    have H1 : ((lookoutlaw10_awake.f k).bind fun t252 => (some t252)) = some r := by rw [if_pos rfl] at H; exact H
    clear H
    have H := H1
    clear H1
    replace H := Option.bind_eq_some_iff.mp H
    obtain ⟨t252, A40, H⟩ := H
    replace H : (some t252) = some r := H
    have A4 := Aside0.mk A40
    clear A40
    obtain rfl := Option.some.inj H
    go_enter Try.func9, Try.ntmps9
    go_wp2_with (first | ((with_reducible refine gate_callee (f := 11) rfl ?_); refine goesL_ (some 17) rfl rfl Try.func11 (by kernel_rfl) rfl #[.slice A0 l0.length c0] rfl (by (try simp only [List.map_toArray, List.map_cons, List.map_nil]); first | done | rfl | (simp only [List.length_drop, List.length_take]; rfl)) ?_; (with_reducible refine (lookoutref10_Great.calls k _ _ l0 true _ ?side1 ?side2 A2.out).mono ?_); (case side1 => repeat (first | exact HR0.out | (with_reducible refine Kd.C_alloc ?_ _) | (with_reducible refine Kd.C_drewN ?_ _) | (with_reducible refine Kd.C_drew ?_))); (case side2 => exact HC0.out); rintro e w' ⟨rfl, ⟨nd, rfl⟩⟩; refine ⟨_, rfl, ?_⟩) | ((with_reducible refine gate_callee (f := 12) rfl ?_); refine goesL_ (some 18) rfl rfl Try.func12 (by kernel_rfl) rfl #[] rfl (by (try simp only [List.map_toArray, List.map_cons, List.map_nil]); first | done | rfl | (simp only [List.length_drop, List.length_take]; rfl)) ?_; (with_reducible refine (lookoutlaw10_awake.calls k  t252 _ A4.out).mono ?_); rintro e w5 ⟨rfl, hb⟩; refine ⟨_, rfl, ?_⟩; have n0_ := Aside0.mk (below_step (by repeat (first | (with_reducible first | exact HB.out | apply below_alloc | apply pw_below_drewN | apply below_drew1) | exact HB.out)) hb); clear HB; have HB := n0_; clear n0_; (try clear hb); (try clear hb2); (try clear hk); (try clear hi)))
    go_ret
    exact ⟨by first | rfl | (simp [errW_none, errW_some] <;> rfl) | (simp [*, errW_none, errW_some] <;> rfl), by repeat (first | (with_reducible first | exact HB.out | apply below_alloc | apply pw_below_drewN | apply below_drew1) | exact HB.out)⟩
  · replace c3 := Bool.eq_false_iff.mpr c3
    subst c3
    have H1 : ((dictcol_Encode.f k l0).bind fun bt253 => ((clone_str.f l0).bind fun t255 => ((rev_str.f t255).bind fun t258 => ((dictcol_Encode.f k t258).bind fun bt259 => (if bt253.2 = 0 then (lookoutlaw10_DictcolDistinct.j0 k l0 bt253.1 bt253.2 bt259.1 bt259.2 (bt259.2 != 0)) else (lookoutlaw10_DictcolDistinct.j0 k l0 bt253.1 bt253.2 bt259.1 bt259.2 true)))))) = some r := by rw [if_neg (show ¬ (false = true) by decide)] at H; exact H
    clear H
    have H := H1
    clear H1
    replace H := Option.bind_eq_some_iff.mp H
    obtain ⟨⟨t253, t254⟩, A60, H⟩ := H
    replace H : ((clone_str.f l0).bind fun t255 => ((rev_str.f t255).bind fun t258 => ((dictcol_Encode.f k t258).bind fun bt259 => (if t254 = 0 then (lookoutlaw10_DictcolDistinct.j0 k l0 t253 t254 bt259.1 bt259.2 (bt259.2 != 0)) else (lookoutlaw10_DictcolDistinct.j0 k l0 t253 t254 bt259.1 bt259.2 true))))) = some r := H
    have A6 := Aside0.mk A60
    clear A60
    replace H := Option.bind_eq_some_iff.mp H
    obtain ⟨t255, A70, H⟩ := H
    replace H : ((rev_str.f t255).bind fun t258 => ((dictcol_Encode.f k t258).bind fun bt259 => (if t254 = 0 then (lookoutlaw10_DictcolDistinct.j0 k l0 t253 t254 bt259.1 bt259.2 (bt259.2 != 0)) else (lookoutlaw10_DictcolDistinct.j0 k l0 t253 t254 bt259.1 bt259.2 true)))) = some r := H
    have A7 := Aside0.mk A70
    clear A70
    replace H := Option.bind_eq_some_iff.mp H
    obtain ⟨t258, A80, H⟩ := H
    replace H : ((dictcol_Encode.f k t258).bind fun bt259 => (if t254 = 0 then (lookoutlaw10_DictcolDistinct.j0 k l0 t253 t254 bt259.1 bt259.2 (bt259.2 != 0)) else (lookoutlaw10_DictcolDistinct.j0 k l0 t253 t254 bt259.1 bt259.2 true))) = some r := H
    have A8 := Aside0.mk A80
    clear A80
    replace H := Option.bind_eq_some_iff.mp H
    obtain ⟨⟨t259, t260⟩, A90, H⟩ := H
    replace H : (if t254 = 0 then (lookoutlaw10_DictcolDistinct.j0 k l0 t253 t254 t259 t260 (t260 != 0)) else (lookoutlaw10_DictcolDistinct.j0 k l0 t253 t254 t259 t260 true)) = some r := H
    have A9 := Aside0.mk A90
    clear A90
    have HC10 := Aside0.mk H
    clear H
    go_enter Try.func9, Try.ntmps9
    go_upto_region 7 with (first | ((with_reducible refine gate_callee (f := 11) rfl ?_); refine goesL_ (some 17) rfl rfl Try.func11 (by kernel_rfl) rfl #[.slice A0 l0.length c0] rfl (by (try simp only [List.map_toArray, List.map_cons, List.map_nil]); first | done | rfl | (simp only [List.length_drop, List.length_take]; rfl)) ?_; (with_reducible refine (lookoutref10_Great.calls k _ _ l0 false _ ?side1 ?side2 A2.out).mono ?_); (case side1 => repeat (first | exact HR0.out | (with_reducible refine Kd.C_alloc ?_ _) | (with_reducible refine Kd.C_drewN ?_ _) | (with_reducible refine Kd.C_drew ?_))); (case side2 => exact HC0.out); rintro e w' ⟨rfl, ⟨nd, rfl⟩⟩; refine ⟨_, rfl, ?_⟩) | ((with_reducible refine gate_callee (f := 13) rfl ?_); refine goesL_ (some 21) rfl rfl Try.func13 (by kernel_rfl) rfl #[.slice A0 l0.length c0] rfl (by (try simp only [List.map_toArray, List.map_cons, List.map_nil]); first | done | rfl | (simp only [List.length_drop, List.length_take]; rfl)) ?_; (with_reducible refine (dictcol_Encode.calls k _ _ l0 t253 t254 _ ?side1 ?side2 A6.out).mono ?_); (case side1 => repeat (first | exact HR0.out | (with_reducible refine Kd.C_alloc ?_ _) | (with_reducible refine Kd.C_drewN ?_ _) | (with_reducible refine Kd.C_drew ?_))); (case side2 => exact HC0.out); rintro e w11 ⟨rfl, hb⟩; refine ⟨_, rfl, ?_⟩; have n0_ := Aside0.mk (below_step (by repeat (first | (with_reducible first | exact HB.out | apply below_alloc | apply pw_below_drewN | apply below_drew1) | exact HB.out)) hb); clear HB; have HB := n0_; clear n0_; (try clear hb); (try clear hb2); (try clear hk); (try clear hi)) | ((with_reducible refine gate_callee (f := 20) rfl ?_); refine goesL_ (some 25) rfl rfl Try.func20 (by kernel_rfl) rfl #[.slice A0 l0.length c0] rfl (by (try simp only [List.map_toArray, List.map_cons, List.map_nil]); first | done | rfl | (simp only [List.length_drop, List.length_take]; rfl)) ?_; (with_reducible refine (clone_str.calls _ _ l0 t255 _ ?side1 ?side2 A7.out).mono ?_); (case side1 => repeat (first | exact (Kd.C_below HR0.out HB.out) | (with_reducible refine Kd.C_alloc ?_ _) | (with_reducible refine Kd.C_drewN ?_ _) | (with_reducible refine Kd.C_drew ?_))); (case side2 => exact HC0.out); rintro e w12 ⟨v256, rfl, ho0, hb⟩; refine ⟨_, rfl, ?_⟩; have n0_ := Aside0.mk (Kd.R_lower ho0 (below_size (by repeat (first | (with_reducible first | exact HB.out | apply below_alloc | apply pw_below_drewN | apply below_drew1) | exact HB.out)))); have n1_ := Aside0.mk (below_step (by repeat (first | (with_reducible first | exact HB.out | apply below_alloc | apply pw_below_drewN | apply below_drew1) | exact HB.out)) hb); clear HB; have HO257 := n0_; have HB := n1_; clear n0_ n1_; (try clear hb); (try clear hb2); (try clear hk); (try clear hi); (try clear ho0); obtain ⟨Ao13, co13, eo13⟩ := Kd.R_slice HO257.out; subst eo13) | ((with_reducible refine gate_callee (f := 29) rfl ?_); refine goesL_ (some 27) rfl rfl Try.func29 (by kernel_rfl) rfl #[.slice Ao13 t255.length co13] rfl (by (try simp only [List.map_toArray, List.map_cons, List.map_nil]); first | done | rfl | (simp only [List.length_drop, List.length_take]; rfl)) ?_; (with_reducible refine (rev_str.calls (fun k_ => some k_ = (.slice Ao13 t255.length co13 : Value).ownBlock) (.slice Ao13 t255.length co13) t255 t258 w _ ?side1 ?side2 A8.out).mono ?_); (case side1 => repeat (first | (with_reducible first | exact HB.out | apply below_alloc | apply pw_below_drewN | apply below_drew1) | exact HB.out)); (case side2 => exact Kd.R_tight rfl HO257.out); rintro e w14 ⟨rfl, hy0, hb, hkp⟩; refine ⟨_, rfl, ?_⟩; have n0_ := Aside0.mk (Kd.R_reok rfl hy0 (fun k_ e_ => HO257.out.1 k_ e_)); have n1_ := Aside0.mk (hb); clear HO257; clear HB; have HO257 := n0_; have HB := n1_; clear n0_ n1_; (try clear hb); (try clear hkp); (try clear hy0)) | ((with_reducible refine gate_callee (f := 13) rfl ?_); refine goesL_ (some 30) rfl rfl Try.func13 (by kernel_rfl) rfl #[.slice Ao13 t258.length co13] rfl (by (try simp only [List.map_toArray, List.map_cons, List.map_nil]); first | done | (rw [show t258.length = t255.length from (Kd.R_reads' HO257.out).1.symm] <;> rfl) | rfl | (simp only [List.length_drop, List.length_take]; rfl)) ?_; (with_reducible refine (dictcol_Encode.calls k _ _ t258 t259 t260 _ ?side1 ?side2 A9.out).mono ?_); (case side1 => repeat (first | exact (Kd.R_reads' HO257.out).2.2 | (with_reducible refine Kd.C_alloc ?_ _) | (with_reducible refine Kd.C_drewN ?_ _) | (with_reducible refine Kd.C_drew ?_))); (case side2 => rw [show t258.length = t255.length from (Kd.R_reads' HO257.out).1.symm]; exact (Kd.R_reads' HO257.out).2.1); rintro e w15 ⟨rfl, hb⟩; refine ⟨_, rfl, ?_⟩; have n0_ := Aside0.mk (Kd.R_below (by (with_reducible repeat (first | apply Kd.R_alloc | apply Kd.R_drewN | apply Kd.R_drew)); exact HO257.out) hb); have n1_ := Aside0.mk (below_step (by repeat (first | (with_reducible first | exact HB.out | apply below_alloc | apply pw_below_drewN | apply below_drew1) | exact HB.out)) hb); clear HO257; clear HB; have HO257 := n0_; have HB := n1_; clear n0_ n1_; (try clear hb); (try clear hb2); (try clear hk); (try clear hi)))
    (try simp only [Act.put, List.setIfInBounds_toArray, List.set_cons_zero, List.set_cons_succ])
    go_cut [38] (fun v38 wc => ∃ (kq : Nat) (x38_9 : Bool), v38 = .bool x38_9 ∧ Aside0 (lookoutlaw10_DictcolDistinct.j0 kq l0 t253 t254 t259 t260 x38_9 = some r) ∧ Aside0 (kq ≤ k) ∧ Aside0 (Below w.heap.size w wc))
    case first =>
      have H := HC10.out
      clear HC10
      by_cases c16 : t254 = 0
      · rw [if_pos c16] at H
        have c16b0 : (t254 == 0) = true := beq_iff_eq.mpr c16
        have c16b1 : (t254 != 0) = false := bne_eq_false_iff_eq.mpr c16
        clear c16
        (first | rw [c16b0] | (simp only [i64_w, i32_w]; rw [c16b0]) | rw [c16b1] | (simp only [i64_w, i32_w]; rw [c16b1]) | skip)
        have H' := Aside0.mk H
        clear H
        go_wp2
        go_meet
        case rel => exact ⟨_, ((t260 != 0)), (by first | rfl | (simp; done) | (simp [*]; done)), H', ⟨by first | omega | exact Nat.le_refl _⟩, ⟨by repeat (first | (with_reducible first | exact HB.out | apply below_alloc | apply pw_below_drewN | apply below_drew1) | exact HB.out)⟩⟩
      · rw [if_neg c16] at H
        have c16b0 : (t254 == 0) = false := beq_eq_false_iff_ne.mpr c16
        have c16b1 : (t254 != 0) = true := bne_iff_ne.mpr c16
        (first | rw [c16b0] | (simp only [i64_w, i32_w]; rw [c16b0]) | rw [c16b1] | (simp only [i64_w, i32_w]; rw [c16b1]) | skip)
        have H' := Aside0.mk H
        clear H
        go_wp2
        go_meet
        case rel => exact ⟨_, (true), (by first | rfl | (simp; done) | (simp [*]; done)), H', ⟨by first | omega | exact Nat.le_refl _⟩, ⟨by repeat (first | (with_reducible first | exact HB.out | apply below_alloc | apply pw_below_drewN | apply below_drew1) | exact HB.out)⟩⟩
    case rest =>
      clear HC10
      try clear c1
      try clear c2
      try clear p2
      try clear c3
      try clear c9
      try clear c11
      try clear c12
      try clear c13
      try clear c16
      try clear c16b0
      try clear c16b1
      obtain ⟨kq, x38_9, rfl, HA, HJ9, HB⟩ := hcut
      cases kq with
      | zero => exact absurd HA.out (by simp [lookoutlaw10_DictcolDistinct.j0])
      | succ kj9 =>
        have H := HA.out
        clear HA
        simp only [lookoutlaw10_DictcolDistinct.j0] at H
        by_cases c17 : x38_9 = true
        · subst c17
          have H1 : (if t254 = t260 then ((lookoutlaw10_awake.f kj9).bind fun t261 => (some t261)) else (none)) = some r := by rw [if_pos rfl] at H; exact H
          clear H
          have H := H1
          clear H1
          by_cases c18 : t254 = t260
          · rw [if_pos c18] at H
            have c18b0 : (t254 == t260) = true := beq_iff_eq.mpr c18
            have c18b1 : (t254 != t260) = false := bne_eq_false_iff_eq.mpr c18
            clear c18
            replace H := Option.bind_eq_some_iff.mp H
            obtain ⟨t261, A190, H⟩ := H
            replace H : (some t261) = some r := H
            have A19 := Aside0.mk A190
            clear A190
            obtain rfl := Option.some.inj H
            go_wp2_with (first | (go_at_call 12; (with_reducible refine (lookoutlaw10_awake.calls kj9  t261 _ A19.out).mono ?_); rintro e w20 ⟨rfl, hb⟩; have n0_ := Aside0.mk (below_step (by repeat (first | (with_reducible first | exact HB.out | apply below_alloc | apply pw_below_drewN | apply below_drew1) | exact HB.out)) hb); clear HB; have HB := n0_; clear n0_; (try clear hb); (try clear hb2); (try clear hk); (try clear hi)))
            go_ret
            exact ⟨by first | rfl | (simp [errW_none, errW_some] <;> rfl) | (simp [*, errW_none, errW_some] <;> rfl), by repeat (first | (with_reducible first | exact HB.out | apply below_alloc | apply pw_below_drewN | apply below_drew1) | exact HB.out)⟩
          · rw [if_neg c18] at H
            exact absurd H (by simp)
        · replace c17 := Bool.eq_false_iff.mpr c17
          subst c17
          have H1 : ((dictcol_Distinct.f kj9 t253).bind fun bt262 => ((dictcol_Distinct.f kj9 t259).bind fun bt266 => (lookoutlaw10_DictcolDistinct.l0 kj9 l0 bt262.1 bt262.2 bt266.1 bt266.2 bt262.1 (bt262.1.length : Int) 0))) = some r := by rw [if_neg (show ¬ (false = true) by decide)] at H; exact H
          clear H
          have H := H1
          clear H1
          replace H := Option.bind_eq_some_iff.mp H
          obtain ⟨⟨t262, t263⟩, A210, H⟩ := H
          replace H : ((dictcol_Distinct.f kj9 t259).bind fun bt266 => (lookoutlaw10_DictcolDistinct.l0 kj9 l0 t262 t263 bt266.1 bt266.2 t262 (t262.length : Int) 0)) = some r := H
          have A21 := Aside0.mk A210
          clear A210
          replace H := Option.bind_eq_some_iff.mp H
          obtain ⟨⟨t266, t267⟩, A220, H⟩ := H
          replace H : (lookoutlaw10_DictcolDistinct.l0 kj9 l0 t262 t263 t266 t267 t262 (t262.length : Int) 0) = some r := H
          have A22 := Aside0.mk A220
          clear A220
          have H' := Aside0.mk H
          clear H
          go_wp2_with (first | ((with_reducible refine gate_callee (f := 22) rfl ?_); refine goesL_ (some 47) rfl rfl Try.func22 (by kernel_rfl) rfl #[.string t253] rfl (by (try simp only [List.map_toArray, List.map_cons, List.map_nil]); first | done | rfl | (simp only [List.length_drop, List.length_take]; rfl)) ?_; (with_reducible refine (dictcol_Distinct.calls kj9 t253 t262 t263 _ A21.out).mono ?_); rintro e w23 ⟨v264, rfl, ho0, hb⟩; refine ⟨_, rfl, ?_⟩; have n0_ := Aside0.mk (Kd.R_lower ho0 (below_size (by repeat (first | (with_reducible first | exact HB.out | apply below_alloc | apply pw_below_drewN | apply below_drew1) | exact HB.out)))); have n1_ := Aside0.mk (below_step (by repeat (first | (with_reducible first | exact HB.out | apply below_alloc | apply pw_below_drewN | apply below_drew1) | exact HB.out)) hb); clear HB; have HO265 := n0_; have HB := n1_; clear n0_ n1_; (try clear hb); (try clear hb2); (try clear hk); (try clear hi); (try clear ho0)) | ((with_reducible refine gate_callee (f := 22) rfl ?_); refine goesL_ (some 52) rfl rfl Try.func22 (by kernel_rfl) rfl #[.string t259] rfl (by (try simp only [List.map_toArray, List.map_cons, List.map_nil]); first | done | rfl | (simp only [List.length_drop, List.length_take]; rfl)) ?_; (with_reducible refine (dictcol_Distinct.calls kj9 t259 t266 t267 _ A22.out).mono ?_); rintro e w24 ⟨v268, rfl, ho0, hb⟩; refine ⟨_, rfl, ?_⟩; have n0_ := Aside0.mk (Kd.R_elder' (by (with_reducible repeat (first | apply Kd.R_alloc | apply Kd.R_drewN | apply Kd.R_drew)); exact HO265.out) (Kd.R_base ho0) hb); have n1_ := Aside0.mk (Kd.R_lower (Kd.R_new' ho0 (Kd.R_lt (by (with_reducible repeat (first | apply Kd.R_alloc | apply Kd.R_drewN | apply Kd.R_drew)); exact HO265.out))) (below_size (by repeat (first | (with_reducible first | exact HB.out | apply below_alloc | apply pw_below_drewN | apply below_drew1) | exact HB.out)))); have n2_ := Aside0.mk (below_step (by repeat (first | (with_reducible first | exact HB.out | apply below_alloc | apply pw_below_drewN | apply below_drew1) | exact HB.out)) hb); clear HO265; clear HB; have HO265 := n0_; have HO269 := n1_; have HB := n2_; clear n0_ n1_ n2_; (try clear hb); (try clear hb2); (try clear hk); (try clear hi); (try clear ho0); obtain ⟨Ao25, co25, eo25⟩ := Kd.R_slice HO265.out; subst eo25))
          go_loopg [57] kj9 (fun kq v57 w' => ∃ (x57_2 : Int), v57 = .int .i64 x57_2 ∧ Aside0 (lookoutlaw10_DictcolDistinct.l0 kq l0 t262 t263 t266 t267 t262 (t262.length : Int) x57_2 = some r) ∧ Aside0 (kq ≤ kj9) ∧ Aside0 (Kd.R Kd.string 9 w' w.heap.size (fun k_ => some k_ ≠ (v268 : Value).ownBlock) (.slice Ao25 t262.length co25) t262) ∧ Aside0 (Kd.R Kd.string 9 w' w.heap.size (fun k_ => some k_ ≠ ((.slice Ao25 t262.length co25) : Value).ownBlock ∧ some k_ ≠ ((.slice Ao25 t262.length co25) : Value).ownBlock) v268 t266) ∧ Aside0 (Kd.R Kd.string 9 w' w.heap.size (fun k_ => some k_ ≠ (v268 : Value).ownBlock) (.slice Ao25 t262.length co25) t262) ∧ Aside0 (Below w.heap.size w w'))
          case atStart => exact ⟨(0), (by first | rfl | (simp; done) | (simp [*]; done)), H', ⟨Nat.le_refl _⟩, ⟨by (with_reducible repeat (first | apply Kd.R_alloc | apply Kd.R_drewN | apply Kd.R_drew)); exact Kd.R_mono HO265.out (fun _ hk => hk.2)⟩, ⟨by (with_reducible repeat (first | apply Kd.R_alloc | apply Kd.R_drewN | apply Kd.R_drew)); exact Kd.R_mono HO269.out (fun _ hk => ⟨hk.2, hk.2⟩)⟩, ⟨by (with_reducible repeat (first | apply Kd.R_alloc | apply Kd.R_drewN | apply Kd.R_drew)); exact Kd.R_mono HO265.out (fun _ hk => hk.2)⟩, ⟨by repeat (first | (with_reducible first | exact HB.out | apply below_alloc | apply pw_below_drewN | apply below_drew1) | exact HB.out)⟩⟩
          case round =>
            clear H'
            try clear c1
            try clear c2
            try clear p2
            try clear c3
            try clear c9
            try clear c11
            try clear c12
            try clear c13
            try clear c16
            try clear c16b0
            try clear c16b1
            try clear c17
            try clear c18
            try clear c18b0
            try clear c18b1
            try clear c20
            try clear c22
            try clear p2
            obtain ⟨x57_2, rfl, HA, HK2, HO_8, HO_10, HO_55, HB⟩ := hrel
            cases gk with
            | zero => exact absurd HA.out (by simp [lookoutlaw10_DictcolDistinct.l0])
            | succ k2 =>
              have H := HA.out
              clear HA
              simp only [lookoutlaw10_DictcolDistinct.l0] at H
              by_cases c26 : x57_2 < (t262.length : Int)
              · rw [if_pos c26] at H
                have c26b0 : decide (x57_2 < (t262.length : Int)) = true := decide_eq_true c26
                clear c26
                by_cases c27 : 0 ≤ x57_2
                · rw [if_pos c27] at H
                  have c27b0 : decide (0 ≤ x57_2) = true := decide_eq_true c27
                  clear c27
                  by_cases c28 : x57_2 < (t262.length : Int)
                  · rw [if_pos c28] at H
                    have c28b0 : decide (x57_2 < (t262.length : Int)) = true := decide_eq_true c28
                    clear c28
                    replace H := Option.bind_eq_some_iff.mp H
                    obtain ⟨t271, A290, H⟩ := H
                    replace H : (if t271 = true then (if x57_2 > 0 then (if 0 ≤ (wrap64 (x57_2 - 1)) then (if (wrap64 (x57_2 - 1)) < (t262.length : Int) then (if ((Op.bytesLess ((rdOf ByteArray.empty t262 (wrap64 (x57_2 - 1))).toList) ((rdOf ByteArray.empty t262 x57_2).toList)) = true) then (lookoutlaw10_DictcolDistinct.l0 k2 l0 t262 t263 t266 t267 t262 (t262.length : Int) (wrap64 (x57_2 + 1))) else (none)) else (none)) else (none)) else (lookoutlaw10_DictcolDistinct.l0 k2 l0 t262 t263 t266 t267 t262 (t262.length : Int) (wrap64 (x57_2 + 1)))) else (none)) = some r := H
                    have A29 := Aside0.mk A290
                    clear A290
                    by_cases c30 : t271 = true
                    · subst c30
                      have H1 : (if x57_2 > 0 then (if 0 ≤ (wrap64 (x57_2 - 1)) then (if (wrap64 (x57_2 - 1)) < (t262.length : Int) then (if ((Op.bytesLess ((rdOf ByteArray.empty t262 (wrap64 (x57_2 - 1))).toList) ((rdOf ByteArray.empty t262 x57_2).toList)) = true) then (lookoutlaw10_DictcolDistinct.l0 k2 l0 t262 t263 t266 t267 t262 (t262.length : Int) (wrap64 (x57_2 + 1))) else (none)) else (none)) else (none)) else (lookoutlaw10_DictcolDistinct.l0 k2 l0 t262 t263 t266 t267 t262 (t262.length : Int) (wrap64 (x57_2 + 1)))) = some r := by rw [if_pos rfl] at H; exact H
                      clear H
                      have H := H1
                      clear H1
                      by_cases c31 : x57_2 > 0
                      · rw [if_pos c31] at H
                        have c31b0 : decide (0 < x57_2) = true := decide_eq_true c31
                        clear c31
                        obtain ⟨ji32, hji32⟩ : ∃ j_ : Int, (wrap64 (x57_2 - 1)) = j_ := ⟨_, rfl⟩
                        replace H : (if 0 ≤ (ji32) then (if (ji32) < (t262.length : Int) then (if ((Op.bytesLess ((rdOf ByteArray.empty t262 (ji32)).toList) ((rdOf ByteArray.empty t262 x57_2).toList)) = true) then (lookoutlaw10_DictcolDistinct.l0 k2 l0 t262 t263 t266 t267 t262 (t262.length : Int) (wrap64 (x57_2 + 1))) else (none)) else (none)) else (none)) = some r := by first | (rw [hji32] at H; exact H) | (simp only [hji32] at H ⊢; exact H)
                        (try rw [hji32] at A29)
                        have hji32w : (IntKind.i64.wrap (x57_2 - 1)) = ji32 := (i64_w _).trans hji32
                        by_cases c33 : 0 ≤ (ji32)
                        · rw [if_pos c33] at H
                          have c33b0 : decide (0 ≤ (ji32)) = true := decide_eq_true c33
                          clear c33
                          by_cases c34 : (ji32) < (t262.length : Int)
                          · rw [if_pos c34] at H
                            have c34b0 : decide ((ji32) < (t262.length : Int)) = true := decide_eq_true c34
                            clear c34
                            by_cases c35 : ((Op.bytesLess ((rdOf ByteArray.empty t262 (ji32)).toList) ((rdOf ByteArray.empty t262 x57_2).toList)) = true)
                            · rw [if_pos c35] at H
                              have c35b0 : (Op.bytesLess ((rdOf ByteArray.empty t262 (ji32)).toList) ((rdOf ByteArray.empty t262 x57_2).toList)) = true := c35
                              clear c35
                              have H' := Aside0.mk H
                              clear H
                              have p270 : 0 ≤ (x57_2 : Int) := of_decide_eq_true (by first | (with_reducible assumption) | assumption)
                              have q270 : x57_2 < (t262.length : Int) := of_decide_eq_true (by first | (with_reducible assumption) | assumption)
                              obtain ⟨ad270, e270, hx270_0⟩ := Kd.at_string (Kd.R_reads' HO_55.out).2.2 x57_2 p270 q270
                              cases e270
                              replace p270 := eq_true p270
                              replace q270 := eq_true q270
                              go_wp2_with (first | ((with_reducible refine gate_callee (f := 30) rfl ?_); refine goesL_ (some 64) rfl rfl Try.func30 (by kernel_rfl) rfl #[.slice A0 l0.length c0, .string (rdOf ByteArray.empty t262 x57_2)] rfl (by (try simp only [List.map_toArray, List.map_cons, List.map_nil]); first | done | rfl | (simp only [List.length_drop, List.length_take]; rfl)) ?_; (with_reducible refine (slices_Contains_string_string.calls k2 _ _ l0 (rdOf ByteArray.empty t262 x57_2) true _ ?side1 ?side2 A29.out).mono ?_); (case side1 => repeat (first | exact (Kd.C_below HR0.out HB.out) | (with_reducible refine Kd.C_alloc ?_ _) | (with_reducible refine Kd.C_drewN ?_ _) | (with_reducible refine Kd.C_drew ?_))); (case side2 => exact HC0.out); rintro e w' ⟨rfl, ⟨nd, rfl⟩⟩; refine ⟨_, rfl, ?_⟩; have p272 : 0 ≤ ((ji32) : Int) := of_decide_eq_true (by first | (with_reducible assumption) | assumption); have q272 : (ji32) < (t262.length : Int) := of_decide_eq_true (by first | (with_reducible assumption) | assumption); obtain ⟨ad272, e272, hx272_0⟩ := Kd.at_string (Kd.R_reads' HO_8.out).2.2 (ji32) p272 q272; obtain rfl : ad270 = ad272 := (by injection e272); replace p272 := eq_true p272; replace q272 := eq_true q272))
                              go_roundg k2
                              case measure => have := HJ9.out; have := HK2.out; omega
                              case rel => exact ⟨(wrap64 (x57_2 + 1)), (by first | rfl | (simp; done) | (simp [*]; done)), H', ⟨by have := HJ9.out; have := HK2.out; omega⟩, ⟨by (with_reducible repeat (first | apply Kd.R_alloc | apply Kd.R_drewN | apply Kd.R_drew)); exact HO_8.out⟩, ⟨by (with_reducible repeat (first | apply Kd.R_alloc | apply Kd.R_drewN | apply Kd.R_drew)); exact HO_10.out⟩, ⟨by (with_reducible repeat (first | apply Kd.R_alloc | apply Kd.R_drewN | apply Kd.R_drew)); exact HO_55.out⟩, ⟨by repeat (first | (with_reducible first | exact HB.out | apply below_alloc | apply pw_below_drewN | apply below_drew1) | exact HB.out)⟩⟩
                            · rw [if_neg c35] at H
                              exact absurd H (by simp)
                          · rw [if_neg c34] at H
                            exact absurd H (by simp)
                        · rw [if_neg c33] at H
                          exact absurd H (by simp)
                      · rw [if_neg c31] at H
                        have c31b0 : decide (0 < x57_2) = false := decide_eq_false c31
                        clear c31
                        have H' := Aside0.mk H
                        clear H
                        have p270 : 0 ≤ (x57_2 : Int) := of_decide_eq_true (by first | (with_reducible assumption) | assumption)
                        have q270 : x57_2 < (t262.length : Int) := of_decide_eq_true (by first | (with_reducible assumption) | assumption)
                        obtain ⟨ad270, e270, hx270_0⟩ := Kd.at_string (Kd.R_reads' HO_55.out).2.2 x57_2 p270 q270
                        cases e270
                        replace p270 := eq_true p270
                        replace q270 := eq_true q270
                        go_wp2_with (first | ((with_reducible refine gate_callee (f := 30) rfl ?_); refine goesL_ (some 64) rfl rfl Try.func30 (by kernel_rfl) rfl #[.slice A0 l0.length c0, .string (rdOf ByteArray.empty t262 x57_2)] rfl (by (try simp only [List.map_toArray, List.map_cons, List.map_nil]); first | done | rfl | (simp only [List.length_drop, List.length_take]; rfl)) ?_; (with_reducible refine (slices_Contains_string_string.calls k2 _ _ l0 (rdOf ByteArray.empty t262 x57_2) true _ ?side1 ?side2 A29.out).mono ?_); (case side1 => repeat (first | exact (Kd.C_below HR0.out HB.out) | (with_reducible refine Kd.C_alloc ?_ _) | (with_reducible refine Kd.C_drewN ?_ _) | (with_reducible refine Kd.C_drew ?_))); (case side2 => exact HC0.out); rintro e w' ⟨rfl, ⟨nd, rfl⟩⟩; refine ⟨_, rfl, ?_⟩))
                        go_roundg k2
                        case measure => have := HJ9.out; have := HK2.out; omega
                        case rel => exact ⟨(wrap64 (x57_2 + 1)), (by first | rfl | (simp; done) | (simp [*]; done)), H', ⟨by have := HJ9.out; have := HK2.out; omega⟩, ⟨by (with_reducible repeat (first | apply Kd.R_alloc | apply Kd.R_drewN | apply Kd.R_drew)); exact HO_8.out⟩, ⟨by (with_reducible repeat (first | apply Kd.R_alloc | apply Kd.R_drewN | apply Kd.R_drew)); exact HO_10.out⟩, ⟨by (with_reducible repeat (first | apply Kd.R_alloc | apply Kd.R_drewN | apply Kd.R_drew)); exact HO_55.out⟩, ⟨by repeat (first | (with_reducible first | exact HB.out | apply below_alloc | apply pw_below_drewN | apply below_drew1) | exact HB.out)⟩⟩
                    · replace c30 := Bool.eq_false_iff.mpr c30
                      subst c30
                      have H1 : (none) = some r := by rw [if_neg (show ¬ (false = true) by decide)] at H; exact H
                      clear H
                      have H := H1
                      clear H1
                      exact absurd H (by simp)
                  · rw [if_neg c28] at H
                    exact absurd H (by simp)
                · rw [if_neg c27] at H
                  exact absurd H (by simp)
              · rw [if_neg c26] at H
                have c26b0 : decide (x57_2 < (t262.length : Int)) = false := decide_eq_false c26
                clear c26
                have H' := Aside0.mk H
                clear H
                go_wp2
                go_loopg [82] k2 (fun kq v82 w' => ∃ (x82_3 : Int), v82 = .int .i64 x82_3 ∧ Aside0 (lookoutlaw10_DictcolDistinct.l1 kq t262 t263 t266 t267 l0 (l0.length : Int) x82_3 = some r) ∧ Aside0 (kq ≤ k2) ∧ Aside0 (Kd.R Kd.string 9 w' w.heap.size (fun k_ => some k_ ≠ (v268 : Value).ownBlock) (.slice Ao25 t262.length co25) t262) ∧ Aside0 (Kd.R Kd.string 9 w' w.heap.size (fun k_ => some k_ ≠ ((.slice Ao25 t262.length co25) : Value).ownBlock) v268 t266) ∧ Aside0 (Below w.heap.size w w'))
                case atStart => exact ⟨(0), (by first | rfl | (simp; done) | (simp [*]; done)), H', ⟨Nat.le_refl _⟩, ⟨by (with_reducible repeat (first | apply Kd.R_alloc | apply Kd.R_drewN | apply Kd.R_drew)); exact HO_8.out⟩, ⟨by (with_reducible repeat (first | apply Kd.R_alloc | apply Kd.R_drewN | apply Kd.R_drew)); exact Kd.R_mono HO_10.out (fun _ hk => hk.1)⟩, ⟨by repeat (first | (with_reducible first | exact HB.out | apply below_alloc | apply pw_below_drewN | apply below_drew1) | exact HB.out)⟩⟩
                case round =>
                  clear H'
                  try clear c1
                  try clear c2
                  try clear p2
                  try clear q2
                  try clear hx2
                  try clear c3
                  try clear p6
                  try clear c9
                  try clear c11
                  try clear c12
                  try clear c13
                  try clear c16
                  try clear c16b0
                  try clear c16b1
                  try clear c17
                  try clear c18
                  try clear c18b0
                  try clear c18b1
                  try clear c20
                  try clear c22
                  try clear c26
                  try clear c26b0
                  try clear c27
                  try clear c27b0
                  try clear p27
                  try clear q27
                  try clear hx27
                  try clear c28
                  try clear c28b0
                  try clear c29
                  try clear c30
                  try clear c31
                  try clear c31b0
                  try clear c33
                  try clear c33b0
                  try clear c34
                  try clear c34b0
                  try clear c35
                  try clear c35b0
                  try clear hx270_0
                  try clear hx272_0
                  try clear p2
                  try clear p270
                  try clear p272
                  try clear q270
                  try clear q272
                  obtain ⟨x82_3, rfl, HA, HK3, HO_8, HO_10, HB⟩ := hrel
                  cases gk with
                  | zero => exact absurd HA.out (by simp [lookoutlaw10_DictcolDistinct.l1])
                  | succ k3 =>
                    have H := HA.out
                    clear HA
                    simp only [lookoutlaw10_DictcolDistinct.l1] at H
                    by_cases c36 : x82_3 < (l0.length : Int)
                    · rw [if_pos c36] at H
                      have c36b0 : decide (x82_3 < (l0.length : Int)) = true := decide_eq_true c36
                      clear c36
                      by_cases c37 : 0 ≤ x82_3
                      · rw [if_pos c37] at H
                        have c37b0 : decide (0 ≤ x82_3) = true := decide_eq_true c37
                        clear c37
                        by_cases c38 : x82_3 < (l0.length : Int)
                        · rw [if_pos c38] at H
                          have c38b0 : decide (x82_3 < (l0.length : Int)) = true := decide_eq_true c38
                          clear c38
                          replace H := Option.bind_eq_some_iff.mp H
                          obtain ⟨t274, A390, H⟩ := H
                          replace H : (if t274 = true then (lookoutlaw10_DictcolDistinct.l1 k3 t262 t263 t266 t267 l0 (l0.length : Int) (wrap64 (x82_3 + 1))) else (none)) = some r := H
                          have A39 := Aside0.mk A390
                          clear A390
                          by_cases c40 : t274 = true
                          · subst c40
                            have H1 : (lookoutlaw10_DictcolDistinct.l1 k3 t262 t263 t266 t267 l0 (l0.length : Int) (wrap64 (x82_3 + 1))) = some r := by rw [if_pos rfl] at H; exact H
                            clear H
                            have H := H1
                            clear H1
                            have H' := Aside0.mk H
                            clear H
                            have p273 : 0 ≤ (x82_3 : Int) := of_decide_eq_true (by first | (with_reducible assumption) | assumption)
                            have q273 : x82_3 < (l0.length : Int) := of_decide_eq_true (by first | (with_reducible assumption) | assumption)
                            obtain ⟨ad273, e273, hx273_0⟩ := Kd.at_string HR0.out x82_3 p273 q273
                            cases e273
                            replace hx273_0 := (HB.out.cell (World.block_lt_of_cell? w _ hx273_0)).trans hx273_0
                            replace p273 := eq_true p273
                            replace q273 := eq_true q273
                            go_wp2_with (first | ((with_reducible refine gate_callee (f := 30) rfl ?_); refine goesL_ (some 88) rfl rfl Try.func30 (by kernel_rfl) rfl #[.slice Ao25 t262.length co25, .string (rdOf ByteArray.empty l0 x82_3)] rfl (by (try simp only [List.map_toArray, List.map_cons, List.map_nil]); first | done | rfl | (simp only [List.length_drop, List.length_take]; rfl)) ?_; (with_reducible refine (slices_Contains_string_string.calls k3 _ _ t262 (rdOf ByteArray.empty l0 x82_3) true _ ?side1 ?side2 A39.out).mono ?_); (case side1 => repeat (first | exact (Kd.R_reads' HO_8.out).2.2 | (with_reducible refine Kd.C_alloc ?_ _) | (with_reducible refine Kd.C_drewN ?_ _) | (with_reducible refine Kd.C_drew ?_))); (case side2 => exact (Kd.R_reads' HO_8.out).2.1); rintro e w' ⟨rfl, ⟨nd, rfl⟩⟩; refine ⟨_, rfl, ?_⟩))
                            go_roundg k3
                            case measure => have := HJ9.out; have := HK2.out; have := HK3.out; omega
                            case rel => exact ⟨(wrap64 (x82_3 + 1)), (by first | rfl | (simp; done) | (simp [*]; done)), H', ⟨by have := HJ9.out; have := HK2.out; have := HK3.out; omega⟩, ⟨by (with_reducible repeat (first | apply Kd.R_alloc | apply Kd.R_drewN | apply Kd.R_drew)); exact HO_8.out⟩, ⟨by (with_reducible repeat (first | apply Kd.R_alloc | apply Kd.R_drewN | apply Kd.R_drew)); exact HO_10.out⟩, ⟨by repeat (first | (with_reducible first | exact HB.out | apply below_alloc | apply pw_below_drewN | apply below_drew1) | exact HB.out)⟩⟩
                          · replace c40 := Bool.eq_false_iff.mpr c40
                            subst c40
                            have H1 : (none) = some r := by rw [if_neg (show ¬ (false = true) by decide)] at H; exact H
                            clear H
                            have H := H1
                            clear H1
                            exact absurd H (by simp)
                        · rw [if_neg c38] at H
                          exact absurd H (by simp)
                      · rw [if_neg c37] at H
                        exact absurd H (by simp)
                    · rw [if_neg c36] at H
                      have c36b0 : decide (x82_3 < (l0.length : Int)) = false := decide_eq_false c36
                      clear c36
                      by_cases c41 : t263 = 0
                      · rw [if_pos c41] at H
                        have c41b0 : (t263 == 0) = true := beq_iff_eq.mpr c41
                        have c41b1 : (t263 != 0) = false := bne_eq_false_iff_eq.mpr c41
                        clear c41
                        by_cases c42 : t267 = 0
                        · rw [if_pos c42] at H
                          have c42b0 : (t267 == 0) = true := beq_iff_eq.mpr c42
                          have c42b1 : (t267 != 0) = false := bne_eq_false_iff_eq.mpr c42
                          clear c42
                          replace H := Option.bind_eq_some_iff.mp H
                          obtain ⟨t275, A430, H⟩ := H
                          replace H : (if t275 = true then ((lookoutlaw10_awake.f k3).bind fun t276 => (some t276)) else (none)) = some r := H
                          have A43 := Aside0.mk A430
                          clear A430
                          by_cases c44 : t275 = true
                          · subst c44
                            have H1 : ((lookoutlaw10_awake.f k3).bind fun t276 => (some t276)) = some r := by rw [if_pos rfl] at H; exact H
                            clear H
                            have H := H1
                            clear H1
                            replace H := Option.bind_eq_some_iff.mp H
                            obtain ⟨t276, A450, H⟩ := H
                            replace H : (some t276) = some r := H
                            have A45 := Aside0.mk A450
                            clear A450
                            obtain rfl := Option.some.inj H
                            obtain ⟨Ao46, co46, eo46⟩ := Kd.R_slice HO_10.out
                            subst eo46
                            go_wp2_with (first | (go_at_call 19; (with_reducible refine (lookoutref10_Same.calls k3 _ _ t266 _ _ t262 true _ ?side1 ?side2 ?side3 ?side4 A43.out).mono ?_); (case side1 => repeat (first | exact (Kd.R_reads' HO_10.out).2.2 | (with_reducible refine Kd.C_alloc ?_ _) | (with_reducible refine Kd.C_drewN ?_ _) | (with_reducible refine Kd.C_drew ?_))); (case side2 => exact (Kd.R_reads' HO_10.out).2.1); (case side3 => repeat (first | exact (Kd.R_reads' HO_8.out).2.2 | (with_reducible refine Kd.C_alloc ?_ _) | (with_reducible refine Kd.C_drewN ?_ _) | (with_reducible refine Kd.C_drew ?_))); (case side4 => exact (Kd.R_reads' HO_8.out).2.1); rintro e w' ⟨rfl, ⟨nd, rfl⟩⟩) | (go_at_call 12; (with_reducible refine (lookoutlaw10_awake.calls k3  t276 _ A45.out).mono ?_); rintro e w47 ⟨rfl, hb⟩; have n0_ := Aside0.mk (Kd.R_below (by (with_reducible repeat (first | apply Kd.R_alloc | apply Kd.R_drewN | apply Kd.R_drew)); exact HO_8.out) hb); have n1_ := Aside0.mk (Kd.R_below (by (with_reducible repeat (first | apply Kd.R_alloc | apply Kd.R_drewN | apply Kd.R_drew)); exact HO_10.out) hb); have n2_ := Aside0.mk (below_step (by repeat (first | (with_reducible first | exact HB.out | apply below_alloc | apply pw_below_drewN | apply below_drew1) | exact HB.out)) hb); clear HO_8; clear HO_10; clear HB; have HO_8 := n0_; have HO_10 := n1_; have HB := n2_; clear n0_ n1_ n2_; (try clear hb); (try clear hb2); (try clear hk); (try clear hi)))
                            go_ret
                            exact ⟨by first | rfl | (simp [errW_none, errW_some] <;> rfl) | (simp [*, errW_none, errW_some] <;> rfl), by repeat (first | (with_reducible first | exact HB.out | apply below_alloc | apply pw_below_drewN | apply below_drew1) | exact HB.out)⟩
                          · replace c44 := Bool.eq_false_iff.mpr c44
                            subst c44
                            have H1 : (none) = some r := by rw [if_neg (show ¬ (false = true) by decide)] at H; exact H
                            clear H
                            have H := H1
                            clear H1
                            exact absurd H (by simp)
                        · rw [if_neg c42] at H
                          exact absurd H (by simp)
                      · rw [if_neg c41] at H
                        exact absurd H (by simp)

/-- THE ONE PURE STATEMENT of lookoutlaw10_DictcolDistinct. -/
def lookoutlaw10_DictcolDistinct.Pure : Prop := ∀ (l0 : List ByteArray), l0.length ≤ maxLen → l0.length * 16 ≤ 140737488351232 → (∀ x ∈ l0, x.size ≤ 140737488351232) → ∃ k, lookoutlaw10_DictcolDistinct.f k l0 = some true

end Go.Proofs.Ytfklecicddpcjaa.Q
