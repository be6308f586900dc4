/- Printed by a program of this session: functions of the law's Go code as Lean functions, and that the Go code computes them. No condition beyond those in the statements. -/
import Derived.Test.YtfklecicddpcjaaQA
import Derived.Test.YtfklecicddpcjaaPB
namespace Go.Proofs.Ytfklecicddpcjaa.Q
open Go.RowKit Go.Proofs.YtfklecicddpcjaaW.PrintWords Go.Proofs.YtfklecicddpcjaaW.PrintLast Go.Proofs.YtfklecicddpcjaaW.PrintMore Go.Proofs.Ytfklecicddpcjaa.Hand Go.Proofs.Ytfklecicddpcjaa.A Go.Proofs.Ytfklecicddpcjaa.P
attribute [local go_sem] max2_int min2_int max_two min_two max_three min_three max_four min_four   -- for this text's walks alone
set_option linter.unusedVariables false
set_option linter.unusedSimpArgs false

/-! ### lookoutlaw10_DictcolLookup: function 10 -/
mutual
def lookoutlaw10_DictcolLookup.j0 : Nat → List ByteArray → ByteArray → Bool → Option (Bool)
  | 0, _, _, _ => none
  | k + 1, x0, x1, x28 => if x28 = true then ((lookoutlaw10_awake.f k).bind fun t400 => (some t400)) else ((dictcol_Encode.f k x0).bind fun bt401 => (if bt401.2 = 0 then ((dictcol_Lookup.f k bt401.1 x1).bind fun bt404 => ((dictcol_Distinct.f k bt401.1).bind fun bt408 => (if bt404.2 = 0 then (if bt408.2 = 0 then ((slices_Contains_string_string.f k x0 x1).bind fun t412 => (lookoutlaw10_DictcolLookup.j1 k x0 x1 bt401.1 bt404.1 bt408.1 ((decide ((bt404.1.length : Int) > 0)) != t412))) else (lookoutlaw10_DictcolLookup.j1 k x0 x1 bt401.1 bt404.1 bt408.1 true)) else (lookoutlaw10_DictcolLookup.j1 k x0 x1 bt401.1 bt404.1 bt408.1 true)))) else ((lookoutlaw10_awake.f k).bind fun t403 => (some t403))))
def lookoutlaw10_DictcolLookup.j1 : Nat → List ByteArray → ByteArray → ByteArray → List Int → List ByteArray → Bool → Option (Bool)
  | 0, _, _, _, _, _, _ => none
  | k + 1, x0, x1, x5, x7, x9, x63 => if x63 = true then (none) else (lookoutlaw10_DictcolLookup.l0 k x0 x1 x5 x7 ([] : List Int) x9 (x9.length : Int) 0)
def lookoutlaw10_DictcolLookup.l0 : Nat → List ByteArray → ByteArray → ByteArray → List Int → List Int → List ByteArray → Int → Int → Option (Bool)
  | 0, _, _, _, _, _, _, _, _ => none
  | k + 1, x0, x1, x5, x7, x11, x64, x65, x66 => if x66 < x65 then (if 0 ≤ x66 then (if x66 < (x64.length : Int) then ((dictcol_Lookup.f k x5 (rdOf ByteArray.empty x64 x66)).bind fun bt414 => (if bt414.2 = 0 then (if (bt414.1.length : Int) = 0 then (none) else ((slices_IsSorted_int_int.f k bt414.1).bind fun t418 => (if t418 = true then (if x11.length + bt414.1.length < 17592186044416 then (lookoutlaw10_DictcolLookup.l0 k x0 x1 x5 x7 (x11 ++ bt414.1) x64 x65 (wrap64 (x66 + 1))) else (none)) else (none)))) else (none))) else (none)) else (none)) else ((sort_int.f x11).bind fun t422 => (if (x11.length : Int) = (x0.length : Int) then (lookoutlaw10_DictcolLookup.l1 k x0 x1 x5 x7 t422 x0 (x0.length : Int) 0) else (none)))
def lookoutlaw10_DictcolLookup.l1 : Nat → List ByteArray → ByteArray → ByteArray → List Int → List Int → List ByteArray → Int → Int → Option (Bool)
  | 0, _, _, _, _, _, _, _, _ => none
  | k + 1, x0, x1, x5, x7, x11, x99, x100, x101 => if x101 < x100 then (if 0 ≤ x101 then (if x101 < (x99.length : Int) then ((dictcol_At.f k x5 x101).bind fun bt427 => (if bt427.2 = 0 then (if bt427.1.toList = (rdOf ByteArray.empty x99 x101).toList then (if x101 < (x11.length : Int) then (if (rd x11 x101) = x101 then ((slices_Contains_int_int.f k x7 x101).bind fun t430 => (if (t430 != ((rdOf ByteArray.empty x99 x101).toList == x1.toList)) = true then (none) else (lookoutlaw10_DictcolLookup.l1 k x0 x1 x5 x7 x11 x99 x100 (wrap64 (x101 + 1))))) else (none)) else (none)) else (none)) else (none))) else (none)) else (none)) else ((dictcol_At.f k x5 (x0.length : Int)).bind fun bt423 => (if bt423.1.toList = ([] : List UInt8) then (if bt423.2 = 2 then ((lookoutlaw10_awake.f k).bind fun t425 => (some t425)) else (none)) else (none)))
end
def lookoutlaw10_DictcolLookup.f (k : Nat) (l0 : List ByteArray) (a1 : ByteArray) : Option (Bool) := (lookoutref10_Great.f k l0).bind fun t399 => (if t399 = true then (lookoutlaw10_DictcolLookup.j0 k l0 a1 true) else (lookoutlaw10_DictcolLookup.j0 k l0 a1 (decide ((a1.size : Int) > 1100))))
theorem lookoutlaw10_DictcolLookup.mono_l : ∀ k, (∀ y0 y1 y2, LeO (lookoutlaw10_DictcolLookup.j0 k y0 y1 y2) (lookoutlaw10_DictcolLookup.j0 (k + 1) y0 y1 y2)) ∧ (∀ y0 y1 y2 y3 y4 y5, LeO (lookoutlaw10_DictcolLookup.j1 k y0 y1 y2 y3 y4 y5) (lookoutlaw10_DictcolLookup.j1 (k + 1) y0 y1 y2 y3 y4 y5)) ∧ (∀ y0 y1 y2 y3 y4 y5 y6 y7, LeO (lookoutlaw10_DictcolLookup.l0 k y0 y1 y2 y3 y4 y5 y6 y7) (lookoutlaw10_DictcolLookup.l0 (k + 1) y0 y1 y2 y3 y4 y5 y6 y7)) ∧ (∀ y0 y1 y2 y3 y4 y5 y6 y7, LeO (lookoutlaw10_DictcolLookup.l1 k y0 y1 y2 y3 y4 y5 y6 y7) (lookoutlaw10_DictcolLookup.l1 (k + 1) y0 y1 y2 y3 y4 y5 y6 y7))
  | 0 => ⟨fun _ _ _ r h => by simp [lookoutlaw10_DictcolLookup.j0] at h, fun _ _ _ _ _ _ r h => by simp [lookoutlaw10_DictcolLookup.j1] at h, fun _ _ _ _ _ _ _ _ r h => by simp [lookoutlaw10_DictcolLookup.l0] at h, fun _ _ _ _ _ _ _ _ r h => by simp [lookoutlaw10_DictcolLookup.l1] at h⟩
  | k + 1 => by
    obtain ⟨ih0, ih1, ih2, ih3⟩ := lookoutlaw10_DictcolLookup.mono_l k
    refine ⟨?_, ?_, ?_, ?_⟩
    · intro y0 y1 y2
      unfold lookoutlaw10_DictcolLookup.j0
      repeat' first
      | (with_reducible exact ih0 _ _ _)
      | (with_reducible exact ih1 _ _ _ _ _ _)
      | (with_reducible exact ih2 _ _ _ _ _ _ _ _)
      | (with_reducible exact ih3 _ _ _ _ _ _ _ _)
      | (with_reducible exact dictcol_At.mono _ _ _)
      | (with_reducible exact dictcol_Distinct.mono _ _)
      | (with_reducible exact dictcol_Encode.mono _ _)
      | (with_reducible exact dictcol_Lookup.mono _ _ _)
      | (with_reducible exact lookoutlaw10_awake.mono _)
      | (with_reducible exact lookoutref10_Great.mono _ _)
      | (with_reducible exact slices_Contains_int_int.mono _ _ _)
      | (with_reducible exact slices_Contains_string_string.mono _ _ _)
      | (with_reducible exact slices_IsSorted_int_int.mono _ _)
      | (with_reducible exact LeO.refl _)
      | (with_reducible exact LeO.none _)
      | (with_reducible refine LeO.ite ?_ ?_)
      | (with_reducible refine LeO.bind ?_ (fun _ => ?_))
      | exact ih0 _ _ _
      | exact ih1 _ _ _ _ _ _
      | exact ih2 _ _ _ _ _ _ _ _
      | exact ih3 _ _ _ _ _ _ _ _
      | exact dictcol_At.mono _ _ _
      | exact dictcol_Distinct.mono _ _
      | exact dictcol_Encode.mono _ _
      | exact dictcol_Lookup.mono _ _ _
      | exact lookoutlaw10_awake.mono _
      | exact lookoutref10_Great.mono _ _
      | exact slices_Contains_int_int.mono _ _ _
      | exact slices_Contains_string_string.mono _ _ _
      | exact slices_IsSorted_int_int.mono _ _
      | exact LeO.none _
      | refine LeO.ite ?_ ?_
      | refine LeO.bind ?_ (fun _ => ?_)
    · intro y0 y1 y2 y3 y4 y5
      unfold lookoutlaw10_DictcolLookup.j1
      repeat' first
      | (with_reducible exact ih0 _ _ _)
      | (with_reducible exact ih1 _ _ _ _ _ _)
      | (with_reducible exact ih2 _ _ _ _ _ _ _ _)
      | (with_reducible exact ih3 _ _ _ _ _ _ _ _)
      | (with_reducible exact dictcol_At.mono _ _ _)
      | (with_reducible exact dictcol_Distinct.mono _ _)
      | (with_reducible exact dictcol_Encode.mono _ _)
      | (with_reducible exact dictcol_Lookup.mono _ _ _)
      | (with_reducible exact lookoutlaw10_awake.mono _)
      | (with_reducible exact lookoutref10_Great.mono _ _)
      | (with_reducible exact slices_Contains_int_int.mono _ _ _)
      | (with_reducible exact slices_Contains_string_string.mono _ _ _)
      | (with_reducible exact slices_IsSorted_int_int.mono _ _)
      | (with_reducible exact LeO.refl _)
      | (with_reducible exact LeO.none _)
      | (with_reducible refine LeO.ite ?_ ?_)
      | (with_reducible refine LeO.bind ?_ (fun _ => ?_))
      | exact ih0 _ _ _
      | exact ih1 _ _ _ _ _ _
      | exact ih2 _ _ _ _ _ _ _ _
      | exact ih3 _ _ _ _ _ _ _ _
      | exact dictcol_At.mono _ _ _
      | exact dictcol_Distinct.mono _ _
      | exact dictcol_Encode.mono _ _
      | exact dictcol_Lookup.mono _ _ _
      | exact lookoutlaw10_awake.mono _
      | exact lookoutref10_Great.mono _ _
      | exact slices_Contains_int_int.mono _ _ _
      | exact slices_Contains_string_string.mono _ _ _
      | exact slices_IsSorted_int_int.mono _ _
      | exact LeO.none _
      | refine LeO.ite ?_ ?_
      | refine LeO.bind ?_ (fun _ => ?_)
    · intro y0 y1 y2 y3 y4 y5 y6 y7
      unfold lookoutlaw10_DictcolLookup.l0
      repeat' first
      | (with_reducible exact ih0 _ _ _)
      | (with_reducible exact ih1 _ _ _ _ _ _)
      | (with_reducible exact ih2 _ _ _ _ _ _ _ _)
      | (with_reducible exact ih3 _ _ _ _ _ _ _ _)
      | (with_reducible exact dictcol_At.mono _ _ _)
      | (with_reducible exact dictcol_Distinct.mono _ _)
      | (with_reducible exact dictcol_Encode.mono _ _)
      | (with_reducible exact dictcol_Lookup.mono _ _ _)
      | (with_reducible exact lookoutlaw10_awake.mono _)
      | (with_reducible exact lookoutref10_Great.mono _ _)
      | (with_reducible exact slices_Contains_int_int.mono _ _ _)
      | (with_reducible exact slices_Contains_string_string.mono _ _ _)
      | (with_reducible exact slices_IsSorted_int_int.mono _ _)
      | (with_reducible exact LeO.refl _)
      | (with_reducible exact LeO.none _)
      | (with_reducible refine LeO.ite ?_ ?_)
      | (with_reducible refine LeO.bind ?_ (fun _ => ?_))
      | exact ih0 _ _ _
      | exact ih1 _ _ _ _ _ _
      | exact ih2 _ _ _ _ _ _ _ _
      | exact ih3 _ _ _ _ _ _ _ _
      | exact dictcol_At.mono _ _ _
      | exact dictcol_Distinct.mono _ _
      | exact dictcol_Encode.mono _ _
      | exact dictcol_Lookup.mono _ _ _
      | exact lookoutlaw10_awake.mono _
      | exact lookoutref10_Great.mono _ _
      | exact slices_Contains_int_int.mono _ _ _
      | exact slices_Contains_string_string.mono _ _ _
      | exact slices_IsSorted_int_int.mono _ _
      | exact LeO.none _
      | refine LeO.ite ?_ ?_
      | refine LeO.bind ?_ (fun _ => ?_)
    · intro y0 y1 y2 y3 y4 y5 y6 y7
      unfold lookoutlaw10_DictcolLookup.l1
      repeat' first
      | (with_reducible exact ih0 _ _ _)
      | (with_reducible exact ih1 _ _ _ _ _ _)
      | (with_reducible exact ih2 _ _ _ _ _ _ _ _)
      | (with_reducible exact ih3 _ _ _ _ _ _ _ _)
      | (with_reducible exact dictcol_At.mono _ _ _)
      | (with_reducible exact dictcol_Distinct.mono _ _)
      | (with_reducible exact dictcol_Encode.mono _ _)
      | (with_reducible exact dictcol_Lookup.mono _ _ _)
      | (with_reducible exact lookoutlaw10_awake.mono _)
      | (with_reducible exact lookoutref10_Great.mono _ _)
      | (with_reducible exact slices_Contains_int_int.mono _ _ _)
      | (with_reducible exact slices_Contains_string_string.mono _ _ _)
      | (with_reducible exact slices_IsSorted_int_int.mono _ _)
      | (with_reducible exact LeO.refl _)
      | (with_reducible exact LeO.none _)
      | (with_reducible refine LeO.ite ?_ ?_)
      | (with_reducible refine LeO.bind ?_ (fun _ => ?_))
      | exact ih0 _ _ _
      | exact ih1 _ _ _ _ _ _
      | exact ih2 _ _ _ _ _ _ _ _
      | exact ih3 _ _ _ _ _ _ _ _
      | exact dictcol_At.mono _ _ _
      | exact dictcol_Distinct.mono _ _
      | exact dictcol_Encode.mono _ _
      | exact dictcol_Lookup.mono _ _ _
      | exact lookoutlaw10_awake.mono _
      | exact lookoutref10_Great.mono _ _
      | exact slices_Contains_int_int.mono _ _ _
      | exact slices_Contains_string_string.mono _ _ _
      | exact slices_IsSorted_int_int.mono _ _
      | exact LeO.none _
      | refine LeO.ite ?_ ?_
      | refine LeO.bind ?_ (fun _ => ?_)
theorem lookoutlaw10_DictcolLookup.mono : ∀ a0 a1 k, LeO (lookoutlaw10_DictcolLookup.f k a0 a1) (lookoutlaw10_DictcolLookup.f (k + 1) a0 a1) := by
  intro a0 a1 k
  obtain ⟨ih0, ih1, ih2, ih3⟩ := lookoutlaw10_DictcolLookup.mono_l k
  unfold lookoutlaw10_DictcolLookup.f
  repeat' first
      | (with_reducible exact ih0 _ _ _)
      | (with_reducible exact ih1 _ _ _ _ _ _)
      | (with_reducible exact ih2 _ _ _ _ _ _ _ _)
      | (with_reducible exact ih3 _ _ _ _ _ _ _ _)
      | (with_reducible exact dictcol_At.mono _ _ _)
      | (with_reducible exact dictcol_Distinct.mono _ _)
      | (with_reducible exact dictcol_Encode.mono _ _)
      | (with_reducible exact dictcol_Lookup.mono _ _ _)
      | (with_reducible exact lookoutlaw10_awake.mono _)
      | (with_reducible exact lookoutref10_Great.mono _ _)
      | (with_reducible exact slices_Contains_int_int.mono _ _ _)
      | (with_reducible exact slices_Contains_string_string.mono _ _ _)
      | (with_reducible exact slices_IsSorted_int_int.mono _ _)
      | (with_reducible exact LeO.refl _)
      | (with_reducible exact LeO.none _)
      | (with_reducible refine LeO.ite ?_ ?_)
      | (with_reducible refine LeO.bind ?_ (fun _ => ?_))
      | exact ih0 _ _ _
      | exact ih1 _ _ _ _ _ _
      | exact ih2 _ _ _ _ _ _ _ _
      | exact ih3 _ _ _ _ _ _ _ _
      | exact dictcol_At.mono _ _ _
      | exact dictcol_Distinct.mono _ _
      | exact dictcol_Encode.mono _ _
      | exact dictcol_Lookup.mono _ _ _
      | exact lookoutlaw10_awake.mono _
      | exact lookoutref10_Great.mono _ _
      | exact slices_Contains_int_int.mono _ _ _
      | exact slices_Contains_string_string.mono _ _ _
      | exact slices_IsSorted_int_int.mono _ _
      | exact LeO.none _
      | refine LeO.ite ?_ ?_
      | refine LeO.bind ?_ (fun _ => ?_)
set_option maxHeartbeats 8000000 in
set_option maxRecDepth 100000 in
theorem lookoutlaw10_DictcolLookup.calls (k : Nat) (A0 : Option Addr) (c0 : Nat) (l0 : List ByteArray) (a1 : ByteArray) (r : Bool) (w : World) (hr0 : Kd.C Kd.string w A0 l0.length l0) (hc0 : l0.length ≤ c0) (h : lookoutlaw10_DictcolLookup.f k l0 a1 = some r) :
    Calls Try.prog 10 #[.slice A0 l0.length c0, .string a1] w fun e w' => e = .returned (.bool r) ∧ Below w.heap.size w w' := by
  have HR0 := Aside0.mk hr0
  have HC0 := Aside0.mk hc0
  clear hr0 hc0
  have HB := Aside0.mk (Below.refl w.heap.size w)
  have H : ((lookoutref10_Great.f k l0).bind fun t399 => (if t399 = true then (lookoutlaw10_DictcolLookup.j0 k l0 a1 true) else (lookoutlaw10_DictcolLookup.j0 k l0 a1 (decide ((a1.size : Int) > 1100))))) = some r := h
  clear h
  have HC3 := Aside0.mk H
  clear H
  go_enter Try.func10, Try.ntmps10
  go_upto_region 1 with (fail)
  go_cut [28] (fun v28 wc => ∃ (kq : Nat) (x28_2 : Bool), v28 = .bool x28_2 ∧ Aside0 (lookoutlaw10_DictcolLookup.j0 kq l0 a1 x28_2 = some r) ∧ Aside0 (kq ≤ k) ∧ Aside0 (Below w.heap.size w wc))
  case first =>
    have H := HC3.out
    clear HC3
    replace H := Option.bind_eq_some_iff.mp H
    obtain ⟨t399, A40, H⟩ := H
    replace H : (if t399 = true then (lookoutlaw10_DictcolLookup.j0 k l0 a1 true) else (lookoutlaw10_DictcolLookup.j0 k l0 a1 (decide ((a1.size : Int) > 1100)))) = some r := H
    have A4 := Aside0.mk A40
    clear A40
    by_cases c5 : t399 = true
    · subst c5
      have H1 : (lookoutlaw10_DictcolLookup.j0 k l0 a1 true) = some r := by rw [if_pos rfl] at H; exact H
      clear H
      have H := H1
      clear H1
      have H' := Aside0.mk H
      clear H
      go_wp2_with (first | ((with_reducible refine gate_callee (f := 11) rfl ?_); refine goesL_ (some 23) rfl rfl Try.func11 (by kernel_rfl) rfl #[.slice A0 l0.length c0] rfl (by (try simp only [List.map_toArray, List.map_cons, List.map_nil]); first | done | rfl | (simp only [List.length_drop, List.length_take]; rfl)) ?_; (with_reducible refine (lookoutref10_Great.calls k _ _ l0 true _ ?side1 ?side2 A4.out).mono ?_); (case side1 => repeat (first | exact (Kd.C_below HR0.out HB.out) | (with_reducible refine Kd.C_alloc ?_ _) | (with_reducible refine Kd.C_drewN ?_ _) | (with_reducible refine Kd.C_drew ?_))); (case side2 => exact HC0.out); rintro e w' ⟨rfl, ⟨nd, rfl⟩⟩; refine ⟨_, rfl, ?_⟩))
      go_meet
      case rel => exact ⟨_, (true), (by first | rfl | (simp; done) | (simp [*]; done)), H', ⟨by first | omega | exact Nat.le_refl _⟩, ⟨by repeat (first | (with_reducible first | exact HB.out | apply below_alloc | apply pw_below_drewN | apply below_drew1) | exact HB.out)⟩⟩
    · replace c5 := Bool.eq_false_iff.mpr c5
      subst c5
      have H1 : (lookoutlaw10_DictcolLookup.j0 k l0 a1 (decide ((a1.size : Int) > 1100))) = some r := by rw [if_neg (show ¬ (false = true) by decide)] at H; exact H
      clear H
      have H := H1
      clear H1
      have H' := Aside0.mk H
      clear H
      go_wp2_with (first | ((with_reducible refine gate_callee (f := 11) rfl ?_); refine goesL_ (some 23) rfl rfl Try.func11 (by kernel_rfl) rfl #[.slice A0 l0.length c0] rfl (by (try simp only [List.map_toArray, List.map_cons, List.map_nil]); first | done | rfl | (simp only [List.length_drop, List.length_take]; rfl)) ?_; (with_reducible refine (lookoutref10_Great.calls k _ _ l0 false _ ?side1 ?side2 A4.out).mono ?_); (case side1 => repeat (first | exact (Kd.C_below HR0.out HB.out) | (with_reducible refine Kd.C_alloc ?_ _) | (with_reducible refine Kd.C_drewN ?_ _) | (with_reducible refine Kd.C_drew ?_))); (case side2 => exact HC0.out); rintro e w' ⟨rfl, ⟨nd, rfl⟩⟩; refine ⟨_, rfl, ?_⟩))
      go_meet
      case rel => exact ⟨_, (decide ((a1.size : Int) > 1100)), (by first | rfl | (simp; done) | (simp [*]; done)), H', ⟨by first | omega | exact Nat.le_refl _⟩, ⟨by repeat (first | (with_reducible first | exact HB.out | apply below_alloc | apply pw_below_drewN | apply below_drew1) | exact HB.out)⟩⟩
  case rest =>
    clear HC3
    try clear c1
    try clear p2
    try clear c5
    obtain ⟨kq, x28_2, rfl, HA, HJ2, HB⟩ := hcut
    cases kq with
    | zero => exact absurd HA.out (by simp [lookoutlaw10_DictcolLookup.j0])
    | succ kj2 =>
      have H := HA.out
      clear HA
      simp only [lookoutlaw10_DictcolLookup.j0] at H
      by_cases c6 : x28_2 = true
      · subst c6
        have H1 : ((lookoutlaw10_awake.f kj2).bind fun t400 => (some t400)) = some r := by rw [if_pos rfl] at H; exact H
        clear H
        have H := H1
        clear H1
        replace H := Option.bind_eq_some_iff.mp H
        obtain ⟨t400, A70, H⟩ := H
        replace H : (some t400) = some r := H
        have A7 := Aside0.mk A70
        clear A70
        obtain rfl := Option.some.inj H
        go_wp2_with (first | ((with_reducible refine gate_callee (f := 12) rfl ?_); refine goesL_ (some 29) rfl rfl Try.func12 (by kernel_rfl) rfl #[] rfl (by (try simp only [List.map_toArray, List.map_cons, List.map_nil]); first | done | rfl | (simp only [List.length_drop, List.length_take]; rfl)) ?_; (with_reducible refine (lookoutlaw10_awake.calls kj2  t400 _ A7.out).mono ?_); rintro e w8 ⟨rfl, hb⟩; refine ⟨_, rfl, ?_⟩; have n0_ := Aside0.mk (below_step (by repeat (first | (with_reducible first | exact HB.out | apply below_alloc | apply pw_below_drewN | apply below_drew1) | exact HB.out)) hb); clear HB; have HB := n0_; clear n0_; (try clear hb); (try clear hb2); (try clear hk); (try clear hi)))
        go_ret
        exact ⟨by first | rfl | (simp [errW_none, errW_some] <;> rfl) | (simp [*, errW_none, errW_some] <;> rfl), by repeat (first | (with_reducible first | exact HB.out | apply below_alloc | apply pw_below_drewN | apply below_drew1) | exact HB.out)⟩
      · replace c6 := Bool.eq_false_iff.mpr c6
        subst c6
        have H1 : ((dictcol_Encode.f kj2 l0).bind fun bt401 => (if bt401.2 = 0 then ((dictcol_Lookup.f kj2 bt401.1 a1).bind fun bt404 => ((dictcol_Distinct.f kj2 bt401.1).bind fun bt408 => (if bt404.2 = 0 then (if bt408.2 = 0 then ((slices_Contains_string_string.f kj2 l0 a1).bind fun t412 => (lookoutlaw10_DictcolLookup.j1 kj2 l0 a1 bt401.1 bt404.1 bt408.1 ((decide ((bt404.1.length : Int) > 0)) != t412))) else (lookoutlaw10_DictcolLookup.j1 kj2 l0 a1 bt401.1 bt404.1 bt408.1 true)) else (lookoutlaw10_DictcolLookup.j1 kj2 l0 a1 bt401.1 bt404.1 bt408.1 true)))) else ((lookoutlaw10_awake.f kj2).bind fun t403 => (some t403)))) = some r := by rw [if_neg (show ¬ (false = true) by decide)] at H; exact H
        clear H
        have H := H1
        clear H1
        replace H := Option.bind_eq_some_iff.mp H
        obtain ⟨⟨t401, t402⟩, A90, H⟩ := H
        replace H : (if t402 = 0 then ((dictcol_Lookup.f kj2 t401 a1).bind fun bt404 => ((dictcol_Distinct.f kj2 t401).bind fun bt408 => (if bt404.2 = 0 then (if bt408.2 = 0 then ((slices_Contains_string_string.f kj2 l0 a1).bind fun t412 => (lookoutlaw10_DictcolLookup.j1 kj2 l0 a1 t401 bt404.1 bt408.1 ((decide ((bt404.1.length : Int) > 0)) != t412))) else (lookoutlaw10_DictcolLookup.j1 kj2 l0 a1 t401 bt404.1 bt408.1 true)) else (lookoutlaw10_DictcolLookup.j1 kj2 l0 a1 t401 bt404.1 bt408.1 true)))) else ((lookoutlaw10_awake.f kj2).bind fun t403 => (some t403))) = some r := H
        have A9 := Aside0.mk A90
        clear A90
        by_cases c10 : t402 = 0
        · rw [if_pos c10] at H
          have c10b0 : (t402 == 0) = true := beq_iff_eq.mpr c10
          have c10b1 : (t402 != 0) = false := bne_eq_false_iff_eq.mpr c10
          clear c10
          replace H := Option.bind_eq_some_iff.mp H
          obtain ⟨⟨t404, t405⟩, A110, H⟩ := H
          replace H : ((dictcol_Distinct.f kj2 t401).bind fun bt408 => (if t405 = 0 then (if bt408.2 = 0 then ((slices_Contains_string_string.f kj2 l0 a1).bind fun t412 => (lookoutlaw10_DictcolLookup.j1 kj2 l0 a1 t401 t404 bt408.1 ((decide ((t404.length : Int) > 0)) != t412))) else (lookoutlaw10_DictcolLookup.j1 kj2 l0 a1 t401 t404 bt408.1 true)) else (lookoutlaw10_DictcolLookup.j1 kj2 l0 a1 t401 t404 bt408.1 true))) = some r := H
          have A11 := Aside0.mk A110
          clear A110
          replace H := Option.bind_eq_some_iff.mp H
          obtain ⟨⟨t408, t409⟩, A120, H⟩ := H
          replace H : (if t405 = 0 then (if t409 = 0 then ((slices_Contains_string_string.f kj2 l0 a1).bind fun t412 => (lookoutlaw10_DictcolLookup.j1 kj2 l0 a1 t401 t404 t408 ((decide ((t404.length : Int) > 0)) != t412))) else (lookoutlaw10_DictcolLookup.j1 kj2 l0 a1 t401 t404 t408 true)) else (lookoutlaw10_DictcolLookup.j1 kj2 l0 a1 t401 t404 t408 true)) = some r := H
          have A12 := Aside0.mk A120
          clear A120
          have HC13 := Aside0.mk H
          clear H
          go_upto_region 8 with (first | ((with_reducible refine gate_callee (f := 13) rfl ?_); refine goesL_ (some 32) rfl rfl Try.func13 (by kernel_rfl) rfl #[.slice A0 l0.length c0] rfl (by (try simp only [List.map_toArray, List.map_cons, List.map_nil]); first | done | rfl | (simp only [List.length_drop, List.length_take]; rfl)) ?_; (with_reducible refine (dictcol_Encode.calls kj2 _ _ l0 t401 t402 _ ?side1 ?side2 A9.out).mono ?_); (case side1 => repeat (first | exact (Kd.C_below HR0.out HB.out) | (with_reducible refine Kd.C_alloc ?_ _) | (with_reducible refine Kd.C_drewN ?_ _) | (with_reducible refine Kd.C_drew ?_))); (case side2 => exact HC0.out); rintro e w14 ⟨rfl, hb⟩; refine ⟨_, rfl, ?_⟩; have n0_ := Aside0.mk (below_step (by repeat (first | (with_reducible first | exact HB.out | apply below_alloc | apply pw_below_drewN | apply below_drew1) | exact HB.out)) hb); clear HB; have HB := n0_; clear n0_; (try clear hb); (try clear hb2); (try clear hk); (try clear hi)) | ((with_reducible refine gate_callee (f := 24) rfl ?_); refine goesL_ (some 41) rfl rfl Try.func24 (by kernel_rfl) rfl #[.string t401, .string a1] rfl (by (try simp only [List.map_toArray, List.map_cons, List.map_nil]); first | done | rfl | (simp only [List.length_drop, List.length_take]; rfl)) ?_; (with_reducible refine (dictcol_Lookup.calls kj2 t401 a1 t404 t405 _ A11.out).mono ?_); rintro e w15 ⟨v406, rfl, ho0, hb⟩; refine ⟨_, rfl, ?_⟩; have n0_ := Aside0.mk (Kd.R_lower ho0 (below_size (by repeat (first | (with_reducible first | exact HB.out | apply below_alloc | apply pw_below_drewN | apply below_drew1) | exact HB.out)))); have n1_ := Aside0.mk (below_step (by repeat (first | (with_reducible first | exact HB.out | apply below_alloc | apply pw_below_drewN | apply below_drew1) | exact HB.out)) hb); clear HB; have HO407 := n0_; have HB := n1_; clear n0_ n1_; (try clear hb); (try clear hb2); (try clear hk); (try clear hi); (try clear ho0)) | ((with_reducible refine gate_callee (f := 22) rfl ?_); refine goesL_ (some 46) rfl rfl Try.func22 (by kernel_rfl) rfl #[.string t401] rfl (by (try simp only [List.map_toArray, List.map_cons, List.map_nil]); first | done | rfl | (simp only [List.length_drop, List.length_take]; rfl)) ?_; (with_reducible refine (dictcol_Distinct.calls kj2 t401 t408 t409 _ A12.out).mono ?_); rintro e w16 ⟨v410, rfl, ho0, hb⟩; refine ⟨_, rfl, ?_⟩; have n0_ := Aside0.mk (Kd.R_below (by (with_reducible repeat (first | apply Kd.R_alloc | apply Kd.R_drewN | apply Kd.R_drew)); exact HO407.out) hb); have n1_ := Aside0.mk (Kd.R_lower ho0 (below_size (by repeat (first | (with_reducible first | exact HB.out | apply below_alloc | apply pw_below_drewN | apply below_drew1) | exact HB.out)))); have n2_ := Aside0.mk (below_step (by repeat (first | (with_reducible first | exact HB.out | apply below_alloc | apply pw_below_drewN | apply below_drew1) | exact HB.out)) hb); clear HO407; clear HB; have HO407 := n0_; have HO411 := n1_; have HB := n2_; clear n0_ n1_ n2_; (try clear hb); (try clear hb2); (try clear hk); (try clear hi); (try clear ho0)))
          (try simp only [Act.put, List.setIfInBounds_toArray, List.set_cons_zero, List.set_cons_succ])
          go_cut [63] (fun v63 wc => ∃ (kq : Nat) (x63_12 : Bool), v63 = .bool x63_12 ∧ Aside0 (lookoutlaw10_DictcolLookup.j1 kq l0 a1 t401 t404 t408 x63_12 = some r) ∧ Aside0 (kq ≤ kj2) ∧ Aside0 (Kd.R (Kd.int .i64) 3 wc w.heap.size (fun _ => True) v406 t404) ∧ Aside0 (Kd.R Kd.string 9 wc w.heap.size (fun _ => True) v410 t408) ∧ Aside0 (Below w.heap.size w wc))
          case first =>
            have H := HC13.out
            clear HC13
            by_cases c17 : t405 = 0
            · rw [if_pos c17] at H
              have c17b0 : (t405 == 0) = true := beq_iff_eq.mpr c17
              have c17b1 : (t405 != 0) = false := bne_eq_false_iff_eq.mpr c17
              clear c17
              (first | rw [c17b0] | (simp only [i64_w, i32_w]; rw [c17b0]) | rw [c17b1] | (simp only [i64_w, i32_w]; rw [c17b1]) | skip)
              by_cases c18 : t409 = 0
              · rw [if_pos c18] at H
                have c18b0 : (t409 == 0) = true := beq_iff_eq.mpr c18
                have c18b1 : (t409 != 0) = false := bne_eq_false_iff_eq.mpr c18
                clear c18
                replace H := Option.bind_eq_some_iff.mp H
                obtain ⟨t412, A190, H⟩ := H
                replace H : (lookoutlaw10_DictcolLookup.j1 kj2 l0 a1 t401 t404 t408 ((decide ((t404.length : Int) > 0)) != t412)) = some r := H
                have A19 := Aside0.mk A190
                clear A190
                have H' := Aside0.mk H
                clear H
                obtain ⟨Ao20, co20, eo20⟩ := Kd.R_slice HO407.out
                subst eo20
                go_wp2_with (first | (go_at_call 30; (with_reducible refine (slices_Contains_string_string.calls kj2 _ _ l0 a1 t412 _ ?side1 ?side2 A19.out).mono ?_); (case side1 => repeat (first | exact (Kd.C_below HR0.out HB.out) | (with_reducible refine Kd.C_alloc ?_ _) | (with_reducible refine Kd.C_drewN ?_ _) | (with_reducible refine Kd.C_drew ?_))); (case side2 => exact HC0.out); rintro e w' ⟨rfl, ⟨nd, rfl⟩⟩))
                go_meet
                case rel => exact ⟨_, (((decide ((t404.length : Int) > 0)) != t412)), (by first | rfl | (simp; cases t412 <;> cases decide (0 < t404.length) <;> rfl) | (simp; done) | (simp [*]; done)), H', ⟨by have := HJ2.out; first | omega | exact Nat.le_refl _⟩, ⟨by (with_reducible repeat (first | apply Kd.R_alloc | apply Kd.R_drewN | apply Kd.R_drew)); exact HO407.out⟩, ⟨by (with_reducible repeat (first | apply Kd.R_alloc | apply Kd.R_drewN | apply Kd.R_drew)); exact HO411.out⟩, ⟨by repeat (first | (with_reducible first | exact HB.out | apply below_alloc | apply pw_below_drewN | apply below_drew1) | exact HB.out)⟩⟩
              · rw [if_neg c18] at H
                have c18b0 : (t409 == 0) = false := beq_eq_false_iff_ne.mpr c18
                have c18b1 : (t409 != 0) = true := bne_iff_ne.mpr c18
                have H' := Aside0.mk H
                clear H
                go_wp2
                go_meet
                case rel => exact ⟨_, (true), (by first | rfl | (simp; done) | (simp [*]; done)), H', ⟨by have := HJ2.out; first | omega | exact Nat.le_refl _⟩, ⟨by (with_reducible repeat (first | apply Kd.R_alloc | apply Kd.R_drewN | apply Kd.R_drew)); exact HO407.out⟩, ⟨by (with_reducible repeat (first | apply Kd.R_alloc | apply Kd.R_drewN | apply Kd.R_drew)); exact HO411.out⟩, ⟨by repeat (first | (with_reducible first | exact HB.out | apply below_alloc | apply pw_below_drewN | apply below_drew1) | exact HB.out)⟩⟩
            · rw [if_neg c17] at H
              have c17b0 : (t405 == 0) = false := beq_eq_false_iff_ne.mpr c17
              have c17b1 : (t405 != 0) = true := bne_iff_ne.mpr c17
              (first | rw [c17b0] | (simp only [i64_w, i32_w]; rw [c17b0]) | rw [c17b1] | (simp only [i64_w, i32_w]; rw [c17b1]) | skip)
              have H' := Aside0.mk H
              clear H
              go_wp2
              go_meet
              case rel => exact ⟨_, (true), (by first | rfl | (simp; done) | (simp [*]; done)), H', ⟨by have := HJ2.out; first | omega | exact Nat.le_refl _⟩, ⟨by (with_reducible repeat (first | apply Kd.R_alloc | apply Kd.R_drewN | apply Kd.R_drew)); exact HO407.out⟩, ⟨by (with_reducible repeat (first | apply Kd.R_alloc | apply Kd.R_drewN | apply Kd.R_drew)); exact HO411.out⟩, ⟨by repeat (first | (with_reducible first | exact HB.out | apply below_alloc | apply pw_below_drewN | apply below_drew1) | exact HB.out)⟩⟩
          case rest =>
            clear HC13
            try clear c1
            try clear c2
            try clear p2
            try clear c5
            try clear c6
            try clear c10
            try clear c10b0
            try clear c10b1
            try clear c11
            try clear c12
            try clear c13
            try clear c17
            try clear c17b0
            try clear c17b1
            try clear c18
            try clear c18b0
            try clear c18b1
            try clear p2
            obtain ⟨kq, x63_12, rfl, HA, HJ12, HO_7, HO_9, HB⟩ := hcut
            cases kq with
            | zero => exact absurd HA.out (by simp [lookoutlaw10_DictcolLookup.j1])
            | succ kj12 =>
              have H := HA.out
              clear HA
              simp only [lookoutlaw10_DictcolLookup.j1] at H
              by_cases c21 : x63_12 = true
              · subst c21
                have H1 : (none) = some r := by rw [if_pos rfl] at H; exact H
                clear H
                have H := H1
                clear H1
                exact absurd H (by simp)
              · replace c21 := Bool.eq_false_iff.mpr c21
                subst c21
                have H1 : (lookoutlaw10_DictcolLookup.l0 kj12 l0 a1 t401 t404 ([] : List Int) t408 (t408.length : Int) 0) = some r := by rw [if_neg (show ¬ (false = true) by decide)] at H; exact H
                clear H
                have H := H1
                clear H1
                have H' := Aside0.mk H
                clear H
                obtain ⟨Ao22, co22, eo22⟩ := Kd.R_slice HO_9.out
                subst eo22
                go_wp2
                go_loopg [11, 66] kj12 (fun kq v11 v66 w' => ∃ (x11_3 : List Int) (x66_3 : Int), v66 = .int .i64 x66_3 ∧ Aside0 (lookoutlaw10_DictcolLookup.l0 kq l0 a1 t401 t404 x11_3 t408 (t408.length : Int) x66_3 = some r) ∧ Aside0 (kq ≤ kj12) ∧ Aside0 (Kd.R (Kd.int .i64) 3 w' w.heap.size (fun k_ => some k_ ≠ (v11 : Value).ownBlock) v406 t404) ∧ Aside0 (Kd.R (Kd.int .i64) 3 w' w.heap.size (fun k_ => some k_ ≠ (v406 : Value).ownBlock) v11 x11_3) ∧ Aside0 (Kd.R Kd.string 9 w' w.heap.size (fun _ => True) (.slice Ao22 t408.length co22) t408) ∧ Aside0 (Below w.heap.size w w'))
                case atStart => exact ⟨(([] : List Int)), (0), (by first | rfl | (simp; done) | (simp [*]; done)), H', ⟨Nat.le_refl _⟩, ⟨by (with_reducible repeat (first | apply Kd.R_alloc | apply Kd.R_drewN | apply Kd.R_drew)); exact Kd.R_mono HO_7.out (fun _ hk => (by simp [Value.ownBlock]))⟩, ⟨by first | exact Kd.R_nil _ _ _ _ _ | exact Kd.N_nil _ _ _ _ _ | exact Kd.V_nil _ _ _ _ _ | exact Kd.Q_nil _ _ _ _ _ | exact Kd.S_nil _ _ _ _ _⟩, ⟨by (with_reducible repeat (first | apply Kd.R_alloc | apply Kd.R_drewN | apply Kd.R_drew)); exact HO_9.out⟩, ⟨by repeat (first | (with_reducible first | exact HB.out | apply below_alloc | apply pw_below_drewN | apply below_drew1) | exact HB.out)⟩⟩
                case round =>
                  clear H'
                  try clear c1
                  try clear c2
                  try clear p2
                  try clear c5
                  try clear c6
                  try clear c10
                  try clear c10b0
                  try clear c10b1
                  try clear c11
                  try clear c12
                  try clear c13
                  try clear c17
                  try clear c17b0
                  try clear c17b1
                  try clear c18
                  try clear c18b0
                  try clear c18b1
                  try clear c21
                  try clear c22
                  try clear p2
                  obtain ⟨x11_3, x66_3, rfl, HA, HK3, HO_7, HO_11, HO_64, HB⟩ := hrel
                  cases gk with
                  | zero => exact absurd HA.out (by simp [lookoutlaw10_DictcolLookup.l0])
                  | succ k3 =>
                    have H := HA.out
                    clear HA
                    simp only [lookoutlaw10_DictcolLookup.l0] at H
                    by_cases c23 : x66_3 < (t408.length : Int)
                    · rw [if_pos c23] at H
                      have c23b0 : decide (x66_3 < (t408.length : Int)) = true := decide_eq_true c23
                      clear c23
                      by_cases c24 : 0 ≤ x66_3
                      · rw [if_pos c24] at H
                        have c24b0 : decide (0 ≤ x66_3) = true := decide_eq_true c24
                        clear c24
                        by_cases c25 : x66_3 < (t408.length : Int)
                        · rw [if_pos c25] at H
                          have c25b0 : decide (x66_3 < (t408.length : Int)) = true := decide_eq_true c25
                          clear c25
                          replace H := Option.bind_eq_some_iff.mp H
                          obtain ⟨⟨t414, t415⟩, A260, H⟩ := H
                          replace H : (if t415 = 0 then (if (t414.length : Int) = 0 then (none) else ((slices_IsSorted_int_int.f k3 t414).bind fun t418 => (if t418 = true then (if x11_3.length + t414.length < 17592186044416 then (lookoutlaw10_DictcolLookup.l0 k3 l0 a1 t401 t404 (x11_3 ++ t414) t408 (t408.length : Int) (wrap64 (x66_3 + 1))) else (none)) else (none)))) else (none)) = some r := H
                          have A26 := Aside0.mk A260
                          clear A260
                          by_cases c27 : t415 = 0
                          · rw [if_pos c27] at H
                            have c27b0 : (t415 == 0) = true := beq_iff_eq.mpr c27
                            have c27b1 : (t415 != 0) = false := bne_eq_false_iff_eq.mpr c27
                            clear c27
                            by_cases c28 : (t414.length : Int) = 0
                            · rw [if_pos c28] at H
                              exact absurd H (by simp)
                            · rw [if_neg c28] at H
                              have c28b0 : ((t414.length : Int) == 0) = false := beq_eq_false_iff_ne.mpr c28
                              have c28b1 : ((t414.length : Int) != 0) = true := bne_iff_ne.mpr c28
                              have c28b2 : ¬ (t414 = []) := fun h_ => c28 (by rw [h_]; rfl)
                              replace H := Option.bind_eq_some_iff.mp H
                              obtain ⟨t418, A290, H⟩ := H
                              replace H : (if t418 = true then (if x11_3.length + t414.length < 17592186044416 then (lookoutlaw10_DictcolLookup.l0 k3 l0 a1 t401 t404 (x11_3 ++ t414) t408 (t408.length : Int) (wrap64 (x66_3 + 1))) else (none)) else (none)) = some r := H
                              have A29 := Aside0.mk A290
                              clear A290
                              by_cases c30 : t418 = true
                              · subst c30
                                have H1 : (if x11_3.length + t414.length < 17592186044416 then (lookoutlaw10_DictcolLookup.l0 k3 l0 a1 t401 t404 (x11_3 ++ t414) t408 (t408.length : Int) (wrap64 (x66_3 + 1))) else (none)) = some r := by rw [if_pos rfl] at H; exact H
                                clear H
                                have H := H1
                                clear H1
                                by_cases c31 : x11_3.length + t414.length < 17592186044416
                                · rw [if_pos c31] at H
                                  have LMc31 := Aside0.mk c31
                                  clear c31
                                  obtain ⟨y419, hy419⟩ : ∃ y_ : List Int, y_ = (x11_3 ++ t414) := ⟨_, rfl⟩
                                  replace H : (lookoutlaw10_DictcolLookup.l0 k3 l0 a1 t401 t404 y419 t408 (t408.length : Int) (wrap64 (x66_3 + 1))) = some r := by first | (rw [hy419]; with_reducible exact H) | (have H2_ := (Option.bind_some _ _).symm.trans H; rw [hy419]; with_reducible exact H2_) | (have H2_ := (Option.bind_some _ _).symm.trans H; with_reducible exact H2_) | with_reducible exact H | (rw [hy419]; exact H) | exact H
                                  have Ny419 := Aside0.mk hy419
                                  clear hy419
                                  have H' := Aside0.mk H
                                  clear H
                                  have p413 : 0 ≤ (x66_3 : Int) := of_decide_eq_true (by first | (with_reducible assumption) | assumption)
                                  have q413 : x66_3 < (t408.length : Int) := of_decide_eq_true (by first | (with_reducible assumption) | assumption)
                                  obtain ⟨ad413, e413, hx413_0⟩ := Kd.at_string (Kd.R_reads' HO_64.out).2.2 x66_3 p413 q413
                                  cases e413
                                  replace p413 := eq_true p413
                                  replace q413 := eq_true q413
                                  go_wp2_with (first | ((with_reducible refine gate_callee (f := 24) rfl ?_); refine goesL_ (some 73) rfl rfl Try.func24 (by kernel_rfl) rfl #[.string t401, .string (rdOf ByteArray.empty t408 x66_3)] rfl (by (try simp only [List.map_toArray, List.map_cons, List.map_nil]); first | done | rfl | (simp only [List.length_drop, List.length_take]; rfl)) ?_; (with_reducible refine (dictcol_Lookup.calls k3 t401 (rdOf ByteArray.empty t408 x66_3) t414 t415 _ A26.out).mono ?_); rintro e w32 ⟨v416, rfl, ho0, hb⟩; refine ⟨_, rfl, ?_⟩; have n0_ := Aside0.mk (Kd.R_elder' (by (with_reducible repeat (first | apply Kd.R_alloc | apply Kd.R_drewN | apply Kd.R_drew)); exact HO_7.out) (Kd.R_base ho0) hb); have n1_ := Aside0.mk (Kd.R_elder' (by (with_reducible repeat (first | apply Kd.R_alloc | apply Kd.R_drewN | apply Kd.R_drew)); exact HO_11.out) (Kd.R_base ho0) hb); have n2_ := Aside0.mk (Kd.R_below (by (with_reducible repeat (first | apply Kd.R_alloc | apply Kd.R_drewN | apply Kd.R_drew)); exact HO_64.out) hb); have n3_ := Aside0.mk (Kd.R_lower (Kd.R_new' (Kd.R_new' ho0 (Kd.R_lt (by (with_reducible repeat (first | apply Kd.R_alloc | apply Kd.R_drewN | apply Kd.R_drew)); exact HO_7.out))) (Kd.R_lt (by (with_reducible repeat (first | apply Kd.R_alloc | apply Kd.R_drewN | apply Kd.R_drew)); exact HO_11.out))) (below_size (by repeat (first | (with_reducible first | exact HB.out | apply below_alloc | apply pw_below_drewN | apply below_drew1) | exact HB.out)))); have n4_ := Aside0.mk (below_step (by repeat (first | (with_reducible first | exact HB.out | apply below_alloc | apply pw_below_drewN | apply below_drew1) | exact HB.out)) hb); clear HO_7; clear HO_11; clear HO_64; clear HB; have HO_7 := n0_; have HO_11 := n1_; have HO_64 := n2_; have HO417 := n3_; have HB := n4_; clear n0_ n1_ n2_ n3_ n4_; (try clear hb); (try clear hb2); (try clear hk); (try clear hi); (try clear ho0); obtain ⟨Ao33, co33, eo33⟩ := Kd.R_slice HO417.out; subst eo33) | (go_at_call 31; (with_reducible refine (slices_IsSorted_int_int.calls k3 _ _ t414 true _ ?side1 ?side2 A29.out).mono ?_); (case side1 => repeat (first | exact (Kd.R_reads' HO417.out).2.2 | (with_reducible refine Kd.C_alloc ?_ _) | (with_reducible refine Kd.C_drewN ?_ _) | (with_reducible refine Kd.C_drew ?_))); (case side2 => exact (Kd.R_reads' HO417.out).2.1); rintro e w' ⟨rfl, ⟨nd, rfl⟩⟩) | ((with_reducible refine gate_builtin (b := .append) (xs := #[.tmp 88, .tmp 89]) rfl ?_); (try (refine gate_guard (by rfl) ?_; dsimp only)); at_builtin; refine Kd.R_append_rows (Kd.int .i64) (w0 := w) w.heap.size rfl (.tmp 88) (.tmp 89) 37 3 (.int .i64 0) 8 rfl Try.underlying37 info3 rfl (by decide) (by omega) u11 x11_3 t414 _ _ _ (fun k_ => some k_ ≠ (v406 : Value).ownBlock ∧ some k_ ≠ (.slice Ao33 t414.length co33 : Value).ownBlock) (fun _ => False) rfl rfl ?aO ?aR (fun _ _ h => h) (fun _ h => h.elim) ?aF ?aB ?aS ?aL ?_; (case aR => repeat (first | exact (Kd.R_reads' HO417.out).2.2 | (with_reducible refine Kd.C_alloc ?_ _) | (with_reducible refine Kd.C_drewN ?_ _) | (with_reducible refine Kd.C_drew ?_))); (case aB => exact (by repeat (first | (with_reducible first | exact HB.out | apply below_alloc | apply pw_below_drewN | apply below_drew1) | exact HB.out))); (case aF => exact (fun k_ hk => ⟨Kd.fresh' (Kd.R_lt (by (with_reducible repeat (first | apply Kd.R_alloc | apply Kd.R_drewN | apply Kd.R_drew)); exact HO_7.out)) k_ hk, Kd.fresh' (Kd.R_lt (by (with_reducible repeat (first | apply Kd.R_alloc | apply Kd.R_drewN | apply Kd.R_drew)); exact HO417.out)) k_ hk⟩)); (case aO => exact (by (with_reducible repeat (first | apply Kd.R_alloc | apply Kd.R_drewN | apply Kd.R_drew)); exact HO_11.out)); (case aS => exact (below_size (by repeat (first | (with_reducible first | exact HB.out | apply below_alloc | apply pw_below_drewN | apply below_drew1) | exact HB.out)))); (case aL => have := LMc31.out; omega); intro v420 w34 ho hb hg hat; rw [← Ny419.out] at ho; have n0_ := Aside0.mk (Kd.R_after (ok := (fun k_ => some k_ ≠ (.slice Ao33 t414.length co33 : Value).ownBlock)) (by (with_reducible repeat (first | apply Kd.R_alloc | apply Kd.R_drewN | apply Kd.R_drew)); exact Kd.R_mono HO_7.out (fun _ hk => ⟨hk.2, hk.1⟩)) hg hat); have n1_ := Aside0.mk (Kd.R_over' (by (with_reducible repeat (first | apply Kd.R_alloc | apply Kd.R_drewN | apply Kd.R_drew)); exact HO_64.out) (Kd.R_typed (by (with_reducible repeat (first | apply Kd.R_alloc | apply Kd.R_drewN | apply Kd.R_drew)); exact HO_11.out)) (by decide) hg); have n2_ := Aside0.mk (Kd.R_after (ok := (fun k_ => some k_ ≠ (v406 : Value).ownBlock)) (by (with_reducible repeat (first | apply Kd.R_alloc | apply Kd.R_drewN | apply Kd.R_drew)); exact Kd.R_mono HO417.out (fun _ hk => ⟨hk.1.2, hk.2⟩)) hg hat); have n3_ := Aside0.mk (hb); have n4_ := Aside0.mk (ho); clear HO_7; clear HO_64; clear HO417; clear HB; clear HO_11; have HO_7 := n0_; have HO_64 := n1_; have HO417 := n2_; have HB := n3_; have HO421 := n4_; clear n0_ n1_ n2_ n3_ n4_; clear ho hb hg hat))
                                  go_roundg k3
                                  case measure => have := HJ2.out; have := HJ12.out; have := HK3.out; omega
                                  case rel => exact ⟨(y419), (wrap64 (x66_3 + 1)), (by first | rfl | (simp; done) | (simp [*]; done)), H', ⟨by have := HJ2.out; have := HJ12.out; have := HK3.out; omega⟩, ⟨by (with_reducible repeat (first | apply Kd.R_alloc | apply Kd.R_drewN | apply Kd.R_drew)); exact Kd.R_mono HO_7.out (fun _ hk => hk.2)⟩, ⟨by (with_reducible repeat (first | apply Kd.R_alloc | apply Kd.R_drewN | apply Kd.R_drew)); exact Kd.R_mono HO421.out (fun _ hk => hk.1)⟩, ⟨by (with_reducible repeat (first | apply Kd.R_alloc | apply Kd.R_drewN | apply Kd.R_drew)); exact HO_64.out⟩, ⟨by repeat (first | (with_reducible first | exact HB.out | apply below_alloc | apply pw_below_drewN | apply below_drew1) | exact HB.out)⟩⟩
                                · rw [if_neg c31] at H
                                  exact absurd H (by simp)
                              · replace c30 := Bool.eq_false_iff.mpr c30
                                subst c30
                                have H1 : (none) = some r := by rw [if_neg (show ¬ (false = true) by decide)] at H; exact H
                                clear H
                                have H := H1
                                clear H1
                                exact absurd H (by simp)
                          · rw [if_neg c27] at H
                            exact absurd H (by simp)
                        · rw [if_neg c25] at H
                          exact absurd H (by simp)
                      · rw [if_neg c24] at H
                        exact absurd H (by simp)
                    · rw [if_neg c23] at H
                      have c23b0 : decide (x66_3 < (t408.length : Int)) = false := decide_eq_false c23
                      clear c23
                      replace H := Option.bind_eq_some_iff.mp H
                      obtain ⟨t422, A350, H⟩ := H
                      replace H : (if (x11_3.length : Int) = (l0.length : Int) then (lookoutlaw10_DictcolLookup.l1 k3 l0 a1 t401 t404 t422 l0 (l0.length : Int) 0) else (none)) = some r := H
                      have A35 := Aside0.mk A350
                      clear A350
                      by_cases c36 : (x11_3.length : Int) = (l0.length : Int)
                      · rw [if_pos c36] at H
                        have c36b0 : ((x11_3.length : Int) == (l0.length : Int)) = true := beq_iff_eq.mpr c36
                        have c36b1 : ((x11_3.length : Int) != (l0.length : Int)) = false := bne_eq_false_iff_eq.mpr c36
                        have c36b2 : (x11_3.length == l0.length) = true := by first | simpa using c36 | (simp at c36 ⊢; omega)
                        clear c36
                        have H' := Aside0.mk H
                        clear H
                        obtain ⟨Ao37, co37, eo37⟩ := Kd.R_slice HO_11.out
                        subst eo37
                        go_wp2_with (first | ((with_reducible refine gate_callee (f := 32) rfl ?_); refine goesL_ (some 93) rfl rfl Try.func32 (by kernel_rfl) rfl #[.slice Ao37 x11_3.length co37] rfl (by (try simp only [List.map_toArray, List.map_cons, List.map_nil]); first | done | rfl | (simp only [List.length_drop, List.length_take]; rfl)) ?_; (with_reducible refine (sort_int.calls (fun k_ => some k_ = (.slice Ao37 x11_3.length co37 : Value).ownBlock) (.slice Ao37 x11_3.length co37) x11_3 t422 w _ ?side1 ?side2 A35.out).mono ?_); (case side1 => repeat (first | (with_reducible first | exact HB.out | apply below_alloc | apply pw_below_drewN | apply below_drew1) | exact HB.out)); (case side2 => exact Kd.R_tight rfl HO_11.out); rintro e w38 ⟨rfl, hy0, hb, hkp⟩; refine ⟨_, rfl, ?_⟩; have n0_ := Aside0.mk (Kd.R_mono (ok' := fun k_ => some k_ ≠ (.slice Ao37 x11_3.length co37 : Value).ownBlock) (Kd.R_keptB (HO_7.out) hkp (fun k_ hk_ hs_ => (hk_) hs_)) (fun k_ hk_ => hk_.1)); have n1_ := Aside0.mk (Kd.R_reok rfl hy0 (fun k_ e_ => HO_11.out.1 k_ e_)); have n2_ := Aside0.mk (Kd.R_mono (ok' := fun k_ => True) (Kd.R_keptB ((Kd.R_apart' HO_64.out (Kd.R_typed HO_11.out) (by decide))) hkp (fun k_ hk_ hs_ => (hk_.2) hs_)) (fun k_ hk_ => trivial)); have n3_ := Aside0.mk (hb); clear HO_7; clear HO_11; clear HO_64; clear HB; have HO_7 := n0_; have HO_11 := n1_; have HO_64 := n2_; have HB := n3_; clear n0_ n1_ n2_ n3_; (try clear hb); (try clear hkp); (try clear hy0)))
                        go_loopg [101] k3 (fun kq v101 w' => ∃ (x101_4 : Int), v101 = .int .i64 x101_4 ∧ Aside0 (lookoutlaw10_DictcolLookup.l1 kq l0 a1 t401 t404 t422 l0 (l0.length : Int) x101_4 = some r) ∧ Aside0 (kq ≤ k3) ∧ Aside0 (Kd.R (Kd.int .i64) 3 w' w.heap.size (fun k_ => some k_ ≠ ((.slice Ao37 x11_3.length co37) : Value).ownBlock) v406 t404) ∧ Aside0 (Kd.R (Kd.int .i64) 3 w' w.heap.size (fun k_ => some k_ ≠ (v406 : Value).ownBlock) (.slice Ao37 x11_3.length co37) t422) ∧ Aside0 (Below w.heap.size w w'))
                        case atStart => exact ⟨(0), (by first | rfl | (simp; done) | (simp [*]; done)), H', ⟨Nat.le_refl _⟩, ⟨by (with_reducible repeat (first | apply Kd.R_alloc | apply Kd.R_drewN | apply Kd.R_drew)); exact HO_7.out⟩, ⟨by (with_reducible repeat (first | apply Kd.R_alloc | apply Kd.R_drewN | apply Kd.R_drew)); exact HO_11.out⟩, ⟨by repeat (first | (with_reducible first | exact HB.out | apply below_alloc | apply pw_below_drewN | apply below_drew1) | exact HB.out)⟩⟩
                        case round =>
                          clear H'
                          try clear c1
                          try clear c2
                          try clear p2
                          try clear c3
                          try clear p4
                          try clear q4
                          try clear hx4
                          try clear c5
                          try clear c6
                          try clear p6
                          try clear c10
                          try clear c10b0
                          try clear c10b1
                          try clear c11
                          try clear c12
                          try clear c13
                          try clear c17
                          try clear c17b0
                          try clear c17b1
                          try clear c18
                          try clear c18b0
                          try clear c18b1
                          try clear c21
                          try clear c22
                          try clear c23
                          try clear c23b0
                          try clear c24
                          try clear c24b0
                          try clear c25
                          try clear c25b0
                          try clear c27
                          try clear c27b0
                          try clear c27b1
                          try clear c28
                          try clear c28b0
                          try clear c28b1
                          try clear c28b2
                          try clear c30
                          try clear c31
                          try clear c32
                          try clear c36
                          try clear c36b0
                          try clear c36b1
                          try clear c36b2
                          try clear hx413_0
                          try clear p2
                          try clear p413
                          try clear q413
                          obtain ⟨x101_4, rfl, HA, HK4, HO_7, HO_11, HB⟩ := hrel
                          have hl11_4 := (Kd.R_reads' HO_11.out).1
                          rw [hl11_4] at HO_11
                          (try simp only [hl11_4])
                          (try simp only [hl11_4] at HO_7)
                          cases gk with
                          | zero => exact absurd HA.out (by simp [lookoutlaw10_DictcolLookup.l1])
                          | succ k4 =>
                            have H := HA.out
                            clear HA
                            simp only [lookoutlaw10_DictcolLookup.l1] at H
                            by_cases c39 : x101_4 < (l0.length : Int)
                            · rw [if_pos c39] at H
                              have c39b0 : decide (x101_4 < (l0.length : Int)) = true := decide_eq_true c39
                              clear c39
                              by_cases c40 : 0 ≤ x101_4
                              · rw [if_pos c40] at H
                                have c40b0 : decide (0 ≤ x101_4) = true := decide_eq_true c40
                                clear c40
                                by_cases c41 : x101_4 < (l0.length : Int)
                                · rw [if_pos c41] at H
                                  have c41b0 : decide (x101_4 < (l0.length : Int)) = true := decide_eq_true c41
                                  clear c41
                                  replace H := Option.bind_eq_some_iff.mp H
                                  obtain ⟨⟨t427, t428⟩, A420, H⟩ := H
                                  replace H : (if t428 = 0 then (if t427.toList = (rdOf ByteArray.empty l0 x101_4).toList then (if x101_4 < (t422.length : Int) then (if (rd t422 x101_4) = x101_4 then ((slices_Contains_int_int.f k4 t404 x101_4).bind fun t430 => (if (t430 != ((rdOf ByteArray.empty l0 x101_4).toList == a1.toList)) = true then (none) else (lookoutlaw10_DictcolLookup.l1 k4 l0 a1 t401 t404 t422 l0 (l0.length : Int) (wrap64 (x101_4 + 1))))) else (none)) else (none)) else (none)) else (none)) = some r := H
                                  have A42 := Aside0.mk A420
                                  clear A420
                                  by_cases c43 : t428 = 0
                                  · rw [if_pos c43] at H
                                    have c43b0 : (t428 == 0) = true := beq_iff_eq.mpr c43
                                    have c43b1 : (t428 != 0) = false := bne_eq_false_iff_eq.mpr c43
                                    clear c43
                                    by_cases c44 : t427.toList = (rdOf ByteArray.empty l0 x101_4).toList
                                    · rw [if_pos c44] at H
                                      have c44b0 : (t427.toList == (rdOf ByteArray.empty l0 x101_4).toList) = true := beq_iff_eq.mpr c44
                                      have c44b1 : (t427.toList != (rdOf ByteArray.empty l0 x101_4).toList) = false := bne_eq_false_iff_eq.mpr c44
                                      clear c44
                                      by_cases c45 : x101_4 < (t422.length : Int)
                                      · rw [if_pos c45] at H
                                        have c45b0 : decide (x101_4 < (t422.length : Int)) = true := decide_eq_true c45
                                        clear c45
                                        by_cases c46 : (rd t422 x101_4) = x101_4
                                        · rw [if_pos c46] at H
                                          have c46b0 : ((rd t422 x101_4) == x101_4) = true := beq_iff_eq.mpr c46
                                          have c46b1 : ((rd t422 x101_4) != x101_4) = false := bne_eq_false_iff_eq.mpr c46
                                          clear c46
                                          replace H := Option.bind_eq_some_iff.mp H
                                          obtain ⟨t430, A470, H⟩ := H
                                          replace H : (if (t430 != ((rdOf ByteArray.empty l0 x101_4).toList == a1.toList)) = true then (none) else (lookoutlaw10_DictcolLookup.l1 k4 l0 a1 t401 t404 t422 l0 (l0.length : Int) (wrap64 (x101_4 + 1)))) = some r := H
                                          have A47 := Aside0.mk A470
                                          clear A470
                                          by_cases c48 : (t430 != ((rdOf ByteArray.empty l0 x101_4).toList == a1.toList)) = true
                                          · rw [if_pos c48] at H
                                            exact absurd H (by simp)
                                          · rw [if_neg c48] at H
                                            have c48b0 : (t430 != ((rdOf ByteArray.empty l0 x101_4).toList == a1.toList)) = false := by simpa using c48
                                            (try (have c48b1 : decide (t430 = ((rdOf ByteArray.empty l0 x101_4).toList == a1.toList)) = true := by simpa using c48))
                                            (try (have c48b2 : (t430 == ((rdOf ByteArray.empty l0 x101_4).toList == a1.toList)) = true := by simpa using c48))
                                            clear c48
                                            have H' := Aside0.mk H
                                            clear H
                                            have p426 : 0 ≤ (x101_4 : Int) := of_decide_eq_true (by first | (with_reducible assumption) | assumption)
                                            have q426 : x101_4 < (l0.length : Int) := of_decide_eq_true (by first | (with_reducible assumption) | assumption)
                                            obtain ⟨ad426, e426, hx426_0⟩ := Kd.at_string HR0.out x101_4 p426 q426
                                            cases e426
                                            replace hx426_0 := (HB.out.cell (World.block_lt_of_cell? w _ hx426_0)).trans hx426_0
                                            replace p426 := eq_true p426
                                            replace q426 := eq_true q426
                                            go_wp2_with (first | ((with_reducible refine gate_callee (f := 26) rfl ?_); refine goesL_ (some 109) rfl rfl Try.func26 (by kernel_rfl) rfl #[.string t401, .int .i64 x101_4] rfl (by (try simp only [List.map_toArray, List.map_cons, List.map_nil]); first | done | rfl | (simp only [List.length_drop, List.length_take]; rfl)) ?_; (with_reducible refine (dictcol_At.calls k4 t401 x101_4 t427 t428 _ A42.out).mono ?_); rintro e w49 ⟨rfl, hb⟩; refine ⟨_, rfl, ?_⟩; have n0_ := Aside0.mk (Kd.R_below (by (with_reducible repeat (first | apply Kd.R_alloc | apply Kd.R_drewN | apply Kd.R_drew)); exact HO_7.out) hb); have n1_ := Aside0.mk (Kd.R_below (by (with_reducible repeat (first | apply Kd.R_alloc | apply Kd.R_drewN | apply Kd.R_drew)); exact HO_11.out) hb); have n2_ := Aside0.mk (below_step (by repeat (first | (with_reducible first | exact HB.out | apply below_alloc | apply pw_below_drewN | apply below_drew1) | exact HB.out)) hb); clear HO_7; clear HO_11; clear HB; have HO_7 := n0_; have HO_11 := n1_; have HB := n2_; clear n0_ n1_ n2_; (try clear hb); (try clear hb2); (try clear hk); (try clear hi); have p429 : 0 ≤ (x101_4 : Int) := of_decide_eq_true (by first | (with_reducible assumption) | assumption); have q429 : x101_4 < (t422.length : Int) := of_decide_eq_true (by first | (with_reducible assumption) | assumption); obtain ⟨ad429, e429, hx429_0⟩ := Kd.at_int (Kd.R_reads' HO_11.out).2.2 x101_4 p429 q429; cases e429; replace p429 := eq_true p429; replace q429 := eq_true q429; obtain ⟨Ao50, co50, eo50⟩ := Kd.R_slice HO_7.out; subst eo50) | (go_at_call 33; (with_reducible refine (slices_Contains_int_int.calls k4 _ _ t404 x101_4 t430 _ ?side1 ?side2 A47.out).mono ?_); (case side1 => repeat (first | exact (Kd.R_reads' HO_7.out).2.2 | (with_reducible refine Kd.C_alloc ?_ _) | (with_reducible refine Kd.C_drewN ?_ _) | (with_reducible refine Kd.C_drew ?_))); (case side2 => exact (Kd.R_reads' HO_7.out).2.1); rintro e w' ⟨rfl, ⟨nd, rfl⟩⟩))
                                            (try simp only [← hl11_4])
                                            go_roundg k4
                                            case measure => have := HJ2.out; have := HJ12.out; have := HK3.out; have := HK4.out; omega
                                            case rel => exact ⟨(wrap64 (x101_4 + 1)), (by first | rfl | (simp; done) | (simp [*]; done)), H', ⟨by have := HJ2.out; have := HJ12.out; have := HK3.out; have := HK4.out; omega⟩, ⟨by (try simp only [hl11_4]); (with_reducible repeat (first | apply Kd.R_alloc | apply Kd.R_drewN | apply Kd.R_drew)); exact HO_7.out⟩, ⟨by (try simp only [hl11_4]); (with_reducible repeat (first | apply Kd.R_alloc | apply Kd.R_drewN | apply Kd.R_drew)); exact HO_11.out⟩, ⟨by repeat (first | (with_reducible first | exact HB.out | apply below_alloc | apply pw_below_drewN | apply below_drew1) | exact HB.out)⟩⟩
                                        · rw [if_neg c46] at H
                                          exact absurd H (by simp)
                                      · rw [if_neg c45] at H
                                        exact absurd H (by simp)
                                    · rw [if_neg c44] at H
                                      exact absurd H (by simp)
                                  · rw [if_neg c43] at H
                                    exact absurd H (by simp)
                                · rw [if_neg c41] at H
                                  exact absurd H (by simp)
                              · rw [if_neg c40] at H
                                exact absurd H (by simp)
                            · rw [if_neg c39] at H
                              have c39b0 : decide (x101_4 < (l0.length : Int)) = false := decide_eq_false c39
                              clear c39
                              replace H := Option.bind_eq_some_iff.mp H
                              obtain ⟨⟨t423, t424⟩, A510, H⟩ := H
                              replace H : (if t423.toList = ([] : List UInt8) then (if t424 = 2 then ((lookoutlaw10_awake.f k4).bind fun t425 => (some t425)) else (none)) else (none)) = some r := H
                              have A51 := Aside0.mk A510
                              clear A510
                              by_cases c52 : t423.toList = ([] : List UInt8)
                              · rw [if_pos c52] at H
                                have c52b0 : (t423.toList == ([] : List UInt8)) = true := beq_iff_eq.mpr c52
                                have c52b1 : (t423.toList != ([] : List UInt8)) = false := bne_eq_false_iff_eq.mpr c52
                                clear c52
                                by_cases c53 : t424 = 2
                                · rw [if_pos c53] at H
                                  have c53b0 : (t424 == 2) = true := beq_iff_eq.mpr c53
                                  have c53b1 : (t424 != 2) = false := bne_eq_false_iff_eq.mpr c53
                                  clear c53
                                  replace H := Option.bind_eq_some_iff.mp H
                                  obtain ⟨t425, A540, H⟩ := H
                                  replace H : (some t425) = some r := H
                                  have A54 := Aside0.mk A540
                                  clear A540
                                  obtain rfl := Option.some.inj H
                                  go_wp2_with (first | ((with_reducible refine gate_callee (f := 26) rfl ?_); refine goesL_ (some 141) rfl rfl Try.func26 (by kernel_rfl) rfl #[.string t401, .int .i64 (l0.length : Int)] rfl (by (try simp only [List.map_toArray, List.map_cons, List.map_nil]); first | done | rfl | (simp only [List.length_drop, List.length_take]; rfl)) ?_; (with_reducible refine (dictcol_At.calls k4 t401 (l0.length : Int) t423 t424 _ A51.out).mono ?_); rintro e w55 ⟨rfl, hb⟩; refine ⟨_, rfl, ?_⟩; have n0_ := Aside0.mk (Kd.R_below (by (with_reducible repeat (first | apply Kd.R_alloc | apply Kd.R_drewN | apply Kd.R_drew)); exact HO_7.out) hb); have n1_ := Aside0.mk (Kd.R_below (by (with_reducible repeat (first | apply Kd.R_alloc | apply Kd.R_drewN | apply Kd.R_drew)); exact HO_11.out) hb); have n2_ := Aside0.mk (below_step (by repeat (first | (with_reducible first | exact HB.out | apply below_alloc | apply pw_below_drewN | apply below_drew1) | exact HB.out)) hb); clear HO_7; clear HO_11; clear HB; have HO_7 := n0_; have HO_11 := n1_; have HB := n2_; clear n0_ n1_ n2_; (try clear hb); (try clear hb2); (try clear hk); (try clear hi)) | (go_at_call 12; (with_reducible refine (lookoutlaw10_awake.calls k4  t425 _ A54.out).mono ?_); rintro e w56 ⟨rfl, hb⟩; have n0_ := Aside0.mk (Kd.R_below (by (with_reducible repeat (first | apply Kd.R_alloc | apply Kd.R_drewN | apply Kd.R_drew)); exact HO_7.out) hb); have n1_ := Aside0.mk (Kd.R_below (by (with_reducible repeat (first | apply Kd.R_alloc | apply Kd.R_drewN | apply Kd.R_drew)); exact HO_11.out) hb); have n2_ := Aside0.mk (below_step (by repeat (first | (with_reducible first | exact HB.out | apply below_alloc | apply pw_below_drewN | apply below_drew1) | exact HB.out)) hb); clear HO_7; clear HO_11; clear HB; have HO_7 := n0_; have HO_11 := n1_; have HB := n2_; clear n0_ n1_ n2_; (try clear hb); (try clear hb2); (try clear hk); (try clear hi)))
                                  go_ret
                                  exact ⟨by first | rfl | (simp [errW_none, errW_some] <;> rfl) | (simp [*, errW_none, errW_some] <;> rfl), by repeat (first | (with_reducible first | exact HB.out | apply below_alloc | apply pw_below_drewN | apply below_drew1) | exact HB.out)⟩
                                · rw [if_neg c53] at H
                                  exact absurd H (by simp)
                              · rw [if_neg c52] at H
                                exact absurd H (by simp)
                      · rw [if_neg c36] at H
                        exact absurd H (by simp)
        · rw [if_neg c10] at H
          have c10b0 : (t402 == 0) = false := beq_eq_false_iff_ne.mpr c10
          have c10b1 : (t402 != 0) = true := bne_iff_ne.mpr c10
          replace H := Option.bind_eq_some_iff.mp H
          obtain ⟨t403, A570, H⟩ := H
          replace H : (some t403) = some r := H
          have A57 := Aside0.mk A570
          clear A570
          obtain rfl := Option.some.inj H
          go_wp2_with (first | ((with_reducible refine gate_callee (f := 13) rfl ?_); refine goesL_ (some 32) rfl rfl Try.func13 (by kernel_rfl) rfl #[.slice A0 l0.length c0] rfl (by (try simp only [List.map_toArray, List.map_cons, List.map_nil]); first | done | rfl | (simp only [List.length_drop, List.length_take]; rfl)) ?_; (with_reducible refine (dictcol_Encode.calls kj2 _ _ l0 t401 t402 _ ?side1 ?side2 A9.out).mono ?_); (case side1 => repeat (first | exact (Kd.C_below HR0.out HB.out) | (with_reducible refine Kd.C_alloc ?_ _) | (with_reducible refine Kd.C_drewN ?_ _) | (with_reducible refine Kd.C_drew ?_))); (case side2 => exact HC0.out); rintro e w58 ⟨rfl, hb⟩; refine ⟨_, rfl, ?_⟩; have n0_ := Aside0.mk (below_step (by repeat (first | (with_reducible first | exact HB.out | apply below_alloc | apply pw_below_drewN | apply below_drew1) | exact HB.out)) hb); clear HB; have HB := n0_; clear n0_; (try clear hb); (try clear hb2); (try clear hk); (try clear hi)) | ((with_reducible refine gate_callee (f := 12) rfl ?_); refine goesL_ (some 37) rfl rfl Try.func12 (by kernel_rfl) rfl #[] rfl (by (try simp only [List.map_toArray, List.map_cons, List.map_nil]); first | done | rfl | (simp only [List.length_drop, List.length_take]; rfl)) ?_; (with_reducible refine (lookoutlaw10_awake.calls kj2  t403 _ A57.out).mono ?_); rintro e w59 ⟨rfl, hb⟩; refine ⟨_, rfl, ?_⟩; have n0_ := Aside0.mk (below_step (by repeat (first | (with_reducible first | exact HB.out | apply below_alloc | apply pw_below_drewN | apply below_drew1) | exact HB.out)) hb); clear HB; have HB := n0_; clear n0_; (try clear hb); (try clear hb2); (try clear hk); (try clear hi)))
          go_ret
          exact ⟨by first | rfl | (simp [errW_none, errW_some] <;> rfl) | (simp [*, errW_none, errW_some] <;> rfl), by repeat (first | (with_reducible first | exact HB.out | apply below_alloc | apply pw_below_drewN | apply below_drew1) | exact HB.out)⟩

/-- THE ONE PURE STATEMENT of lookoutlaw10_DictcolLookup. -/
def lookoutlaw10_DictcolLookup.Pure : Prop := ∀ (l0 : List ByteArray) (a1 : ByteArray), l0.length ≤ maxLen → l0.length * 16 ≤ 140737488351232 → (∀ x ∈ l0, x.size ≤ 140737488351232) → a1.size ≤ 140737488351232 → ∃ k, lookoutlaw10_DictcolLookup.f k l0 a1 = some true

end Go.Proofs.Ytfklecicddpcjaa.Q
