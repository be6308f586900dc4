/- Printed by a program of this session: functions of the law's Go code as Lean functions, and that the Go code computes them. No condition beyond those in the statements. -/
import Derived.Test.YtdmdhpnlalekfaaPx0
import Derived.Test.YtdmdhpnlalekfaaPx1
import Derived.Test.YtdmdhpnlalekfaaPx2
import Derived.Test.YtdmdhpnlalekfaaPx3
namespace Go.Proofs.Ytdmdhpnlalekfaa.P
open Go.RowKit Go.Proofs.YtdmdhpnlalekfaaW.PrintWords Go.Proofs.YtdmdhpnlalekfaaW.PrintLast Go.Proofs.YtdmdhpnlalekfaaW.PrintMore Go.Proofs.Ytdmdhpnlalekfaa.Hand Go.Proofs.Ytdmdhpnlalekfaa.A
attribute [local go_sem] max2_int min2_int max_two min_two max_three min_three max_four min_four   -- for this text's walks alone
set_option linter.unusedVariables false
set_option linter.unusedSimpArgs false

/-! ### lookoutlaw08_PostingsCanonical: function 8 -/
mutual
def lookoutlaw08_PostingsCanonical.j0 : Nat → List Int → ByteArray → Bool → Option (Bool)
  | 0, _, _, _ => none
  | k + 1, x0, x1, x20 => if x20 = true then ((lookoutlaw08_awake.f k).bind fun t404 => (some t404)) else ((postings_Encode.f k x0).bind fun bt405 => ((postings_Decode.f k bt405.1).bind fun bt407 => (if bt405.2 = 0 then (if bt407.2 = 0 then ((lookoutref08_Same.f k x0 bt407.1).bind fun t411 => (if t411 = true then (if (bt405.1.size : Int) ≤ (x0.length : Int) then (lookoutlaw08_PostingsCanonical.j1 k x1 true) else (lookoutlaw08_PostingsCanonical.j1 k x1 false)) else (lookoutlaw08_PostingsCanonical.j1 k x1 true))) else (lookoutlaw08_PostingsCanonical.j1 k x1 true)) else (if bt405.1.toList = ([] : List UInt8) then ((postings_Check.f k x0).bind fun t412 => (lookoutlaw08_PostingsCanonical.j1 k x1 (t412 == 0))) else (lookoutlaw08_PostingsCanonical.j1 k x1 true)))))
def lookoutlaw08_PostingsCanonical.j1 : Nat → ByteArray → Bool → Option (Bool)
  | 0, _, _ => none
  | k + 1, x1, x63 => if x63 = true then (none) else ((postings_Decode.f k x1).bind fun bt413 => ((postings_Encode.f k bt413.1).bind fun bt417 => (if bt413.2 = 0 then (if bt417.2 = 0 then (if bt417.1.toList = x1.toList then ((postings_Check.f k bt413.1).bind fun t419 => (if t419 = 0 then ((lookoutlaw08_awake.f k).bind fun t420 => (some t420)) else (none))) else (none)) else (none)) else (if (bt413.1.length : Int) = 0 then ((lookoutlaw08_awake.f k).bind fun t421 => (some t421)) else (none)))))
end
def lookoutlaw08_PostingsCanonical.f (k : Nat) (l0 : List Int) (a1 : ByteArray) : Option (Bool) := (lookoutlaw08_great.f (([l0] : List (List Int)))).bind fun t403 => (if t403 = true then (lookoutlaw08_PostingsCanonical.j0 k l0 a1 true) else (lookoutlaw08_PostingsCanonical.j0 k l0 a1 (decide ((a1.size : Int) > 300))))
theorem lookoutlaw08_PostingsCanonical.mono_l : ∀ k, (∀ y0 y1 y2, LeO (lookoutlaw08_PostingsCanonical.j0 k y0 y1 y2) (lookoutlaw08_PostingsCanonical.j0 (k + 1) y0 y1 y2)) ∧ (∀ y0 y1, LeO (lookoutlaw08_PostingsCanonical.j1 k y0 y1) (lookoutlaw08_PostingsCanonical.j1 (k + 1) y0 y1))
  | 0 => ⟨fun _ _ _ r h => by simp [lookoutlaw08_PostingsCanonical.j0] at h, fun _ _ r h => by simp [lookoutlaw08_PostingsCanonical.j1] at h⟩
  | k + 1 => by
    obtain ⟨ih0, ih1⟩ := lookoutlaw08_PostingsCanonical.mono_l k
    refine ⟨?_, ?_⟩
    · intro y0 y1 y2
      unfold lookoutlaw08_PostingsCanonical.j0
      repeat' first
      | (with_reducible exact ih0 _ _ _)
      | (with_reducible exact ih1 _ _)
      | (with_reducible exact lookoutlaw08_awake.mono _)
      | (with_reducible exact lookoutref08_Same.mono _ _ _)
      | (with_reducible exact postings_Check.mono _ _)
      | (with_reducible exact postings_Decode.mono _ _)
      | (with_reducible exact postings_Encode.mono _ _)
      | (with_reducible exact LeO.refl _)
      | (with_reducible exact LeO.none _)
      | (with_reducible refine LeO.ite ?_ ?_)
      | (with_reducible refine LeO.bind ?_ (fun _ => ?_))
      | exact ih0 _ _ _
      | exact ih1 _ _
      | exact lookoutlaw08_awake.mono _
      | exact lookoutref08_Same.mono _ _ _
      | exact postings_Check.mono _ _
      | exact postings_Decode.mono _ _
      | exact postings_Encode.mono _ _
      | exact LeO.none _
      | refine LeO.ite ?_ ?_
      | refine LeO.bind ?_ (fun _ => ?_)
    · intro y0 y1
      unfold lookoutlaw08_PostingsCanonical.j1
      repeat' first
      | (with_reducible exact ih0 _ _ _)
      | (with_reducible exact ih1 _ _)
      | (with_reducible exact lookoutlaw08_awake.mono _)
      | (with_reducible exact lookoutref08_Same.mono _ _ _)
      | (with_reducible exact postings_Check.mono _ _)
      | (with_reducible exact postings_Decode.mono _ _)
      | (with_reducible exact postings_Encode.mono _ _)
      | (with_reducible exact LeO.refl _)
      | (with_reducible exact LeO.none _)
      | (with_reducible refine LeO.ite ?_ ?_)
      | (with_reducible refine LeO.bind ?_ (fun _ => ?_))
      | exact ih0 _ _ _
      | exact ih1 _ _
      | exact lookoutlaw08_awake.mono _
      | exact lookoutref08_Same.mono _ _ _
      | exact postings_Check.mono _ _
      | exact postings_Decode.mono _ _
      | exact postings_Encode.mono _ _
      | exact LeO.none _
      | refine LeO.ite ?_ ?_
      | refine LeO.bind ?_ (fun _ => ?_)
theorem lookoutlaw08_PostingsCanonical.mono : ∀ a0 a1 k, LeO (lookoutlaw08_PostingsCanonical.f k a0 a1) (lookoutlaw08_PostingsCanonical.f (k + 1) a0 a1) := by
  intro a0 a1 k
  obtain ⟨ih0, ih1⟩ := lookoutlaw08_PostingsCanonical.mono_l k
  unfold lookoutlaw08_PostingsCanonical.f
  repeat' first
      | (with_reducible exact ih0 _ _ _)
      | (with_reducible exact ih1 _ _)
      | (with_reducible exact lookoutlaw08_awake.mono _)
      | (with_reducible exact lookoutref08_Same.mono _ _ _)
      | (with_reducible exact postings_Check.mono _ _)
      | (with_reducible exact postings_Decode.mono _ _)
      | (with_reducible exact postings_Encode.mono _ _)
      | (with_reducible exact LeO.refl _)
      | (with_reducible exact LeO.none _)
      | (with_reducible refine LeO.ite ?_ ?_)
      | (with_reducible refine LeO.bind ?_ (fun _ => ?_))
      | exact ih0 _ _ _
      | exact ih1 _ _
      | exact lookoutlaw08_awake.mono _
      | exact lookoutref08_Same.mono _ _ _
      | exact postings_Check.mono _ _
      | exact postings_Decode.mono _ _
      | exact postings_Encode.mono _ _
      | exact LeO.none _
      | refine LeO.ite ?_ ?_
      | refine LeO.bind ?_ (fun _ => ?_)
set_option maxHeartbeats 8000000 in
set_option maxRecDepth 100000 in
theorem lookoutlaw08_PostingsCanonical.calls (k : Nat) (P0_ : Nat → Prop) (A0 : Option Addr) (c0 : Nat) (l0 : List Int) (a1 : ByteArray) (r : Bool) (w : World) (hs0 : Kd.V (Kd.int .i64) 3 w w.heap.size (fun k_ => P0_ k_) (.slice A0 l0.length c0) l0) (h : lookoutlaw08_PostingsCanonical.f k l0 a1 = some r) :
    Calls Try.prog 8 #[.slice A0 l0.length c0, .string a1] w fun e w' => e = .returned (.bool r) ∧ Below w.heap.size w w' := by
  have HO0 := Aside0.mk (show Kd.V (Kd.int .i64) 3 w w.heap.size (fun k_ => (P0_ k_ ∨ w.heap.size ≤ k_)) (.slice A0 l0.length c0) l0 from Kd.V_mono hs0 (fun k_ hk => .inl hk))
  have HB := Aside0.mk (Below.refl w.heap.size w)
  have H : ((lookoutlaw08_great.f (([l0] : List (List Int)))).bind fun t403 => (if t403 = true then (lookoutlaw08_PostingsCanonical.j0 k l0 a1 true) else (lookoutlaw08_PostingsCanonical.j0 k l0 a1 (decide ((a1.size : Int) > 300))))) = some r := h
  clear h
  have HC3 := Aside0.mk H
  clear H
  go_enter Try.func8, Try.ntmps8
  go_upto_region 1 with (fail)
  go_cut [20] (fun v20 wc => ∃ (kq : Nat) (x20_2 : Bool), v20 = .bool x20_2 ∧ Aside0 (lookoutlaw08_PostingsCanonical.j0 kq l0 a1 x20_2 = some r) ∧ Aside0 (kq ≤ k) ∧ Aside0 (Kd.V (Kd.int .i64) 3 wc w.heap.size (fun k_ => (P0_ k_ ∨ w.heap.size ≤ k_)) (.slice A0 l0.length c0) l0) ∧ Aside0 (Below w.heap.size w wc))
  case first =>
    have H := HC3.out
    clear HC3
    obtain ⟨y400, hy400⟩ : ∃ y_ : List (List Int), y_ = (([l0] : List (List Int))) := ⟨_, rfl⟩
    replace H : ((lookoutlaw08_great.f y400).bind fun t403 => (if t403 = true then (lookoutlaw08_PostingsCanonical.j0 k l0 a1 true) else (lookoutlaw08_PostingsCanonical.j0 k l0 a1 (decide ((a1.size : Int) > 300))))) = some r := by first | (rw [hy400]; with_reducible exact H) | (have H2_ := (Option.bind_some _ _).symm.trans H; rw [hy400]; with_reducible exact H2_) | (have H2_ := (Option.bind_some _ _).symm.trans H; with_reducible exact H2_) | with_reducible exact H | (rw [hy400]; exact H) | exact H
    have Ny400 := Aside0.mk hy400
    clear hy400
    replace H := Option.bind_eq_some_iff.mp H
    obtain ⟨t403, A40, H⟩ := H
    replace H : (if t403 = true then (lookoutlaw08_PostingsCanonical.j0 k l0 a1 true) else (lookoutlaw08_PostingsCanonical.j0 k l0 a1 (decide ((a1.size : Int) > 300)))) = some r := H
    have A4 := Aside0.mk A40
    clear A40
    by_cases c5 : t403 = true
    · subst c5
      have H1 : (lookoutlaw08_PostingsCanonical.j0 k l0 a1 true) = some r := by rw [if_pos rfl] at H; exact H
      clear H
      have H := H1
      clear H1
      have H' := Aside0.mk H
      clear H
      go_wp2_with (first | ((with_reducible refine gate_dst (N := 14) rfl ?_); (try (refine gate_guard (by rfl) ?_; dsimp only)); refine Kd.N_lit (Kd.slice 3 (Kd.int .i64)) _ 23 ?hg (N' := 14) ?hd (xs := ([l0] : List (List Int))) (inner := [.slice A0 l0.length c0]) (ok := (fun k_ => (P0_ k_ ∨ w.heap.size ≤ k_))) (okp := (fun k_ => (P0_ k_ ∨ w.heap.size ≤ k_))) ?hr ?hp (fun _ hk => hk) ((show ∀ k_, w.heap.size ≤ k_ → (fun k_ => (P0_ k_ ∨ w.heap.size ≤ k_)) k_ from fun k_ hk => (.inr (Nat.le_trans (below_size (by repeat (first | (with_reducible first | exact HB.out | apply below_alloc | apply pw_below_drewN | apply below_drew1) | exact HB.out))) hk))) _ (Nat.le_refl _)) (Below.refl _ _) (Nat.le_refl _) (by simp) ?_; (case hd => rfl); (case hg => rfl); (case hr => first | (go_simp; done) | (go_simp; rfl)); (case hp => exact (Reps.one (show Kd.FK (Kd.slice 3 (Kd.int .i64)) _ _ l0 [.slice A0 l0.length c0] from (Kd.FK_slice_mk (Kd.V_reads' (Kd.V_mono (ok' := (fun k_ => (P0_ k_ ∨ w.heap.size ≤ k_))) (HO0.out) (fun k_ hk => hk))).2.1 (Kd.V_F (Kd.V_mono (ok' := (fun k_ => (P0_ k_ ∨ w.heap.size ≤ k_))) (HO0.out) (fun k_ hk => hk))))) (Reps.none _ _))); intro v401 w6 ho7 hb hg_ hnew_; clear hg_ hnew_; (first | rw [← Ny400.out] at ho7 | (simp only [Int.reduceToNat] at ho7; rw [← Ny400.out] at ho7)); have n0_ := Aside0.mk (Kd.V_elder' (by (with_reducible repeat (first | apply Kd.V_alloc | apply Kd.V_drewN | apply Kd.V_drew)); exact HO0.out) (Kd.N_base ho7) hb); have n1_ := Aside0.mk (Kd.N_lower ho7 (below_size (by repeat (first | (with_reducible first | exact HB.out | apply below_alloc | apply pw_below_drewN | apply below_drew1) | exact HB.out)))); have n2_ := Aside0.mk (below_step (by repeat (first | (with_reducible first | exact HB.out | apply below_alloc | apply pw_below_drewN | apply below_drew1) | exact HB.out)) hb); clear HO0; clear HB; have HO0 := n0_; have HO402 := n1_; have HB := n2_; clear n0_ n1_ n2_; clear hb ho7; obtain ⟨Ao8, co8, eo8⟩ := Kd.N_slice HO402.out; subst eo8) | ((with_reducible refine gate_callee (f := 16) rfl ?_); refine goesL_ (some 15) rfl rfl Try.func16 (by kernel_rfl) rfl #[.slice Ao8 y400.length co8] rfl (by (try simp only [List.map_toArray, List.map_cons, List.map_nil]); first | done | rfl | (simp only [List.length_drop, List.length_take]; rfl)) ?_; (with_reducible refine (lookoutlaw08_great.calls _ _ y400 true _ ?side1 ?side2 A4.out).mono ?_); (case side1 => repeat (first | exact (Kd.N_reads' HO402.out).2.2 | (with_reducible refine Kd.C_alloc ?_ _) | (with_reducible refine Kd.C_drewN ?_ _) | (with_reducible refine Kd.C_drew ?_))); (case side2 => exact (Kd.N_reads' HO402.out).2.1); rintro e w' ⟨rfl, ⟨nd, rfl⟩⟩; refine ⟨_, rfl, ?_⟩))
      go_meet
      case rel => exact ⟨_, (true), (by first | rfl | (simp; done) | (simp [*]; done)), H', ⟨by first | omega | exact Nat.le_refl _⟩, ⟨by (with_reducible repeat (first | apply Kd.V_alloc | apply Kd.V_drewN | apply Kd.V_drew)); exact Kd.V_mono HO0.out (fun _ hk => hk.1)⟩, ⟨by repeat (first | (with_reducible first | exact HB.out | apply below_alloc | apply pw_below_drewN | apply below_drew1) | exact HB.out)⟩⟩
    · replace c5 := Bool.eq_false_iff.mpr c5
      subst c5
      have H1 : (lookoutlaw08_PostingsCanonical.j0 k l0 a1 (decide ((a1.size : Int) > 300))) = some r := by rw [if_neg (show ¬ (false = true) by decide)] at H; exact H
      clear H
      have H := H1
      clear H1
      have H' := Aside0.mk H
      clear H
      go_wp2_with (first | ((with_reducible refine gate_dst (N := 14) rfl ?_); (try (refine gate_guard (by rfl) ?_; dsimp only)); refine Kd.N_lit (Kd.slice 3 (Kd.int .i64)) _ 23 ?hg (N' := 14) ?hd (xs := ([l0] : List (List Int))) (inner := [.slice A0 l0.length c0]) (ok := (fun k_ => (P0_ k_ ∨ w.heap.size ≤ k_))) (okp := (fun k_ => (P0_ k_ ∨ w.heap.size ≤ k_))) ?hr ?hp (fun _ hk => hk) ((show ∀ k_, w.heap.size ≤ k_ → (fun k_ => (P0_ k_ ∨ w.heap.size ≤ k_)) k_ from fun k_ hk => (.inr (Nat.le_trans (below_size (by repeat (first | (with_reducible first | exact HB.out | apply below_alloc | apply pw_below_drewN | apply below_drew1) | exact HB.out))) hk))) _ (Nat.le_refl _)) (Below.refl _ _) (Nat.le_refl _) (by simp) ?_; (case hd => rfl); (case hg => rfl); (case hr => first | (go_simp; done) | (go_simp; rfl)); (case hp => exact (Reps.one (show Kd.FK (Kd.slice 3 (Kd.int .i64)) _ _ l0 [.slice A0 l0.length c0] from (Kd.FK_slice_mk (Kd.V_reads' (Kd.V_mono (ok' := (fun k_ => (P0_ k_ ∨ w.heap.size ≤ k_))) (HO0.out) (fun k_ hk => hk))).2.1 (Kd.V_F (Kd.V_mono (ok' := (fun k_ => (P0_ k_ ∨ w.heap.size ≤ k_))) (HO0.out) (fun k_ hk => hk))))) (Reps.none _ _))); intro v401 w9 ho10 hb hg_ hnew_; clear hg_ hnew_; (first | rw [← Ny400.out] at ho10 | (simp only [Int.reduceToNat] at ho10; rw [← Ny400.out] at ho10)); have n0_ := Aside0.mk (Kd.V_elder' (by (with_reducible repeat (first | apply Kd.V_alloc | apply Kd.V_drewN | apply Kd.V_drew)); exact HO0.out) (Kd.N_base ho10) hb); have n1_ := Aside0.mk (Kd.N_lower ho10 (below_size (by repeat (first | (with_reducible first | exact HB.out | apply below_alloc | apply pw_below_drewN | apply below_drew1) | exact HB.out)))); have n2_ := Aside0.mk (below_step (by repeat (first | (with_reducible first | exact HB.out | apply below_alloc | apply pw_below_drewN | apply below_drew1) | exact HB.out)) hb); clear HO0; clear HB; have HO0 := n0_; have HO402 := n1_; have HB := n2_; clear n0_ n1_ n2_; clear hb ho10; obtain ⟨Ao11, co11, eo11⟩ := Kd.N_slice HO402.out; subst eo11) | ((with_reducible refine gate_callee (f := 16) rfl ?_); refine goesL_ (some 15) rfl rfl Try.func16 (by kernel_rfl) rfl #[.slice Ao11 y400.length co11] rfl (by (try simp only [List.map_toArray, List.map_cons, List.map_nil]); first | done | rfl | (simp only [List.length_drop, List.length_take]; rfl)) ?_; (with_reducible refine (lookoutlaw08_great.calls _ _ y400 false _ ?side1 ?side2 A4.out).mono ?_); (case side1 => repeat (first | exact (Kd.N_reads' HO402.out).2.2 | (with_reducible refine Kd.C_alloc ?_ _) | (with_reducible refine Kd.C_drewN ?_ _) | (with_reducible refine Kd.C_drew ?_))); (case side2 => exact (Kd.N_reads' HO402.out).2.1); rintro e w' ⟨rfl, ⟨nd, rfl⟩⟩; refine ⟨_, rfl, ?_⟩))
      go_meet
      case rel => exact ⟨_, (decide ((a1.size : Int) > 300)), (by first | rfl | (simp; done) | (simp [*]; done)), H', ⟨by first | omega | exact Nat.le_refl _⟩, ⟨by (with_reducible repeat (first | apply Kd.V_alloc | apply Kd.V_drewN | apply Kd.V_drew)); exact Kd.V_mono HO0.out (fun _ hk => hk.1)⟩, ⟨by repeat (first | (with_reducible first | exact HB.out | apply below_alloc | apply pw_below_drewN | apply below_drew1) | exact HB.out)⟩⟩
  case rest =>
    clear HC3
    try clear c1
    try clear p2
    try clear c5
    try clear c8
    obtain ⟨kq, x20_2, rfl, HA, HJ2, HO_0, HB⟩ := hcut
    cases kq with
    | zero => exact absurd HA.out (by simp [lookoutlaw08_PostingsCanonical.j0])
    | succ kj2 =>
      have H := HA.out
      clear HA
      simp only [lookoutlaw08_PostingsCanonical.j0] at H
      by_cases c12 : x20_2 = true
      · subst c12
        have H1 : ((lookoutlaw08_awake.f kj2).bind fun t404 => (some t404)) = some r := by rw [if_pos rfl] at H; exact H
        clear H
        have H := H1
        clear H1
        replace H := Option.bind_eq_some_iff.mp H
        obtain ⟨t404, A130, H⟩ := H
        replace H : (some t404) = some r := H
        have A13 := Aside0.mk A130
        clear A130
        obtain rfl := Option.some.inj H
        go_wp2_with (first | ((with_reducible refine gate_callee (f := 12) rfl ?_); refine goesL_ (some 21) rfl rfl Try.func12 (by kernel_rfl) rfl #[] rfl (by (try simp only [List.map_toArray, List.map_cons, List.map_nil]); first | done | rfl | (simp only [List.length_drop, List.length_take]; rfl)) ?_; (with_reducible refine (lookoutlaw08_awake.calls kj2  t404 _ A13.out).mono ?_); rintro e w14 ⟨rfl, hb⟩; refine ⟨_, rfl, ?_⟩; have n0_ := Aside0.mk (Kd.V_below (by (with_reducible repeat (first | apply Kd.V_alloc | apply Kd.V_drewN | apply Kd.V_drew)); exact HO_0.out) hb); have n1_ := Aside0.mk (below_step (by repeat (first | (with_reducible first | exact HB.out | apply below_alloc | apply pw_below_drewN | apply below_drew1) | exact HB.out)) hb); clear HO_0; clear HB; have HO_0 := n0_; have HB := n1_; clear n0_ n1_; (try clear hb); (try clear hb2); (try clear hk); (try clear hi)))
        go_ret
        exact ⟨by first | rfl | (simp [errW_none, errW_some] <;> rfl) | (simp [*, errW_none, errW_some] <;> rfl), by repeat (first | (with_reducible first | exact HB.out | apply below_alloc | apply pw_below_drewN | apply below_drew1) | exact HB.out)⟩
      · replace c12 := Bool.eq_false_iff.mpr c12
        subst c12
        have H1 : ((postings_Encode.f kj2 l0).bind fun bt405 => ((postings_Decode.f kj2 bt405.1).bind fun bt407 => (if bt405.2 = 0 then (if bt407.2 = 0 then ((lookoutref08_Same.f kj2 l0 bt407.1).bind fun t411 => (if t411 = true then (if (bt405.1.size : Int) ≤ (l0.length : Int) then (lookoutlaw08_PostingsCanonical.j1 kj2 a1 true) else (lookoutlaw08_PostingsCanonical.j1 kj2 a1 false)) else (lookoutlaw08_PostingsCanonical.j1 kj2 a1 true))) else (lookoutlaw08_PostingsCanonical.j1 kj2 a1 true)) else (if bt405.1.toList = ([] : List UInt8) then ((postings_Check.f kj2 l0).bind fun t412 => (lookoutlaw08_PostingsCanonical.j1 kj2 a1 (t412 == 0))) else (lookoutlaw08_PostingsCanonical.j1 kj2 a1 true))))) = some r := by rw [if_neg (show ¬ (false = true) by decide)] at H; exact H
        clear H
        have H := H1
        clear H1
        replace H := Option.bind_eq_some_iff.mp H
        obtain ⟨⟨t405, t406⟩, A150, H⟩ := H
        replace H : ((postings_Decode.f kj2 t405).bind fun bt407 => (if t406 = 0 then (if bt407.2 = 0 then ((lookoutref08_Same.f kj2 l0 bt407.1).bind fun t411 => (if t411 = true then (if (t405.size : Int) ≤ (l0.length : Int) then (lookoutlaw08_PostingsCanonical.j1 kj2 a1 true) else (lookoutlaw08_PostingsCanonical.j1 kj2 a1 false)) else (lookoutlaw08_PostingsCanonical.j1 kj2 a1 true))) else (lookoutlaw08_PostingsCanonical.j1 kj2 a1 true)) else (if t405.toList = ([] : List UInt8) then ((postings_Check.f kj2 l0).bind fun t412 => (lookoutlaw08_PostingsCanonical.j1 kj2 a1 (t412 == 0))) else (lookoutlaw08_PostingsCanonical.j1 kj2 a1 true)))) = some r := H
        have A15 := Aside0.mk A150
        clear A150
        replace H := Option.bind_eq_some_iff.mp H
        obtain ⟨⟨t407, t408⟩, A160, H⟩ := H
        replace H : (if t406 = 0 then (if t408 = 0 then ((lookoutref08_Same.f kj2 l0 t407).bind fun t411 => (if t411 = true then (if (t405.size : Int) ≤ (l0.length : Int) then (lookoutlaw08_PostingsCanonical.j1 kj2 a1 true) else (lookoutlaw08_PostingsCanonical.j1 kj2 a1 false)) else (lookoutlaw08_PostingsCanonical.j1 kj2 a1 true))) else (lookoutlaw08_PostingsCanonical.j1 kj2 a1 true)) else (if t405.toList = ([] : List UInt8) then ((postings_Check.f kj2 l0).bind fun t412 => (lookoutlaw08_PostingsCanonical.j1 kj2 a1 (t412 == 0))) else (lookoutlaw08_PostingsCanonical.j1 kj2 a1 true))) = some r := H
        have A16 := Aside0.mk A160
        clear A160
        have HC17 := Aside0.mk H
        clear H
        go_upto_region 5 with (first | ((with_reducible refine gate_callee (f := 27) rfl ?_); refine goesL_ (some 24) rfl rfl Try.func27 (by kernel_rfl) rfl #[.slice A0 l0.length c0] rfl (by (try simp only [List.map_toArray, List.map_cons, List.map_nil]); first | done | rfl | (simp only [List.length_drop, List.length_take]; rfl)) ?_; (with_reducible refine (postings_Encode.calls kj2 _ _ l0 t405 t406 _ ?side1 ?side2 A15.out).mono ?_); (case side1 => repeat (first | exact (Kd.V_reads' HO_0.out).2.2 | (with_reducible refine Kd.C_alloc ?_ _) | (with_reducible refine Kd.C_drewN ?_ _) | (with_reducible refine Kd.C_drew ?_))); (case side2 => exact (Kd.V_reads' HO_0.out).2.1); rintro e w18 ⟨rfl, hb⟩; refine ⟨_, rfl, ?_⟩; have n0_ := Aside0.mk (Kd.V_below (by (with_reducible repeat (first | apply Kd.V_alloc | apply Kd.V_drewN | apply Kd.V_drew)); exact HO_0.out) hb); have n1_ := Aside0.mk (below_step (by repeat (first | (with_reducible first | exact HB.out | apply below_alloc | apply pw_below_drewN | apply below_drew1) | exact HB.out)) hb); clear HO_0; clear HB; have HO_0 := n0_; have HB := n1_; clear n0_ n1_; (try clear hb); (try clear hb2); (try clear hk); (try clear hi)) | ((with_reducible refine gate_callee (f := 13) rfl ?_); refine goesL_ (some 29) rfl rfl Try.func13 (by kernel_rfl) rfl #[.string t405] rfl (by (try simp only [List.map_toArray, List.map_cons, List.map_nil]); first | done | rfl | (simp only [List.length_drop, List.length_take]; rfl)) ?_; (with_reducible refine (postings_Decode.calls kj2 t405 t407 t408 _ A16.out).mono ?_); rintro e w19 ⟨v409, rfl, ho0, hb⟩; refine ⟨_, rfl, ?_⟩; have n0_ := Aside0.mk (Kd.V_elder' (by (with_reducible repeat (first | apply Kd.V_alloc | apply Kd.V_drewN | apply Kd.V_drew)); exact HO_0.out) (Kd.R_base ho0) hb); have n1_ := Aside0.mk (Kd.R_lower (Kd.R_newM (M := fun k_ => (w.heap.size ≤ k_)) ho0 (below_size (by repeat (first | (with_reducible first | exact HB.out | apply below_alloc | apply pw_below_drewN | apply below_drew1) | exact HB.out))) (fun k_ h_ => h_)) (below_size (by repeat (first | (with_reducible first | exact HB.out | apply below_alloc | apply pw_below_drewN | apply below_drew1) | exact HB.out)))); have n2_ := Aside0.mk (below_step (by repeat (first | (with_reducible first | exact HB.out | apply below_alloc | apply pw_below_drewN | apply below_drew1) | exact HB.out)) hb); clear HO_0; clear HB; have HO_0 := n0_; have HO410 := n1_; have HB := n2_; clear n0_ n1_ n2_; (try clear hb); (try clear hb2); (try clear hk); (try clear hi); (try clear ho0)))
        (try simp only [Act.put, List.setIfInBounds_toArray, List.set_cons_zero, List.set_cons_succ])
        go_cut [63] (fun v63 wc => ∃ (kq : Nat) (x63_16 : Bool), v63 = .bool x63_16 ∧ Aside0 (lookoutlaw08_PostingsCanonical.j1 kq a1 x63_16 = some r) ∧ Aside0 (kq ≤ kj2) ∧ Aside0 (Below w.heap.size w wc))
        case first =>
          have H := HC17.out
          clear HC17
          by_cases c20 : t406 = 0
          · rw [if_pos c20] at H
            have c20b0 : (t406 == 0) = true := beq_iff_eq.mpr c20
            have c20b1 : (t406 != 0) = false := bne_eq_false_iff_eq.mpr c20
            clear c20
            (first | rw [c20b0] | (simp only [i64_w, i32_w]; rw [c20b0]) | skip)
            by_cases c21 : t408 = 0
            · rw [if_pos c21] at H
              have c21b0 : (t408 == 0) = true := beq_iff_eq.mpr c21
              have c21b1 : (t408 != 0) = false := bne_eq_false_iff_eq.mpr c21
              clear c21
              replace H := Option.bind_eq_some_iff.mp H
              obtain ⟨t411, A220, H⟩ := H
              replace H : (if t411 = true then (if (t405.size : Int) ≤ (l0.length : Int) then (lookoutlaw08_PostingsCanonical.j1 kj2 a1 true) else (lookoutlaw08_PostingsCanonical.j1 kj2 a1 false)) else (lookoutlaw08_PostingsCanonical.j1 kj2 a1 true)) = some r := H
              have A22 := Aside0.mk A220
              clear A220
              by_cases c23 : t411 = true
              · subst c23
                have H1 : (if (t405.size : Int) ≤ (l0.length : Int) then (lookoutlaw08_PostingsCanonical.j1 kj2 a1 true) else (lookoutlaw08_PostingsCanonical.j1 kj2 a1 false)) = some r := by rw [if_pos rfl] at H; exact H
                clear H
                have H := H1
                clear H1
                by_cases c24 : (t405.size : Int) ≤ (l0.length : Int)
                · rw [if_pos c24] at H
                  have c24b0 : decide ((t405.size : Int) ≤ (l0.length : Int)) = true := decide_eq_true c24
                  have c24b1 : decide (t405.size ≤ l0.length) = true := decide_eq_true (Int.ofNat_le.mp c24)
                  clear c24
                  have H' := Aside0.mk H
                  clear H
                  obtain ⟨Ao25, co25, eo25⟩ := Kd.R_slice HO410.out
                  subst eo25
                  go_wp2_with (first | (go_at_call 15; (with_reducible refine (lookoutref08_Same.calls kj2 _ _ l0 _ _ t407 true _ ?side1 ?side2 ?side3 ?side4 A22.out).mono ?_); (case side1 => repeat (first | exact (Kd.V_reads' HO_0.out).2.2 | (with_reducible refine Kd.C_alloc ?_ _) | (with_reducible refine Kd.C_drewN ?_ _) | (with_reducible refine Kd.C_drew ?_))); (case side2 => exact (Kd.V_reads' HO_0.out).2.1); (case side3 => repeat (first | exact (Kd.R_reads' HO410.out).2.2 | (with_reducible refine Kd.C_alloc ?_ _) | (with_reducible refine Kd.C_drewN ?_ _) | (with_reducible refine Kd.C_drew ?_))); (case side4 => exact (Kd.R_reads' HO410.out).2.1); rintro e w' ⟨rfl, ⟨nd, rfl⟩⟩))
                  go_meet
                  case rel => exact ⟨_, (true), (by first | rfl | (simp; done) | (simp [*]; done)), H', ⟨by have := HJ2.out; first | omega | exact Nat.le_refl _⟩, ⟨by repeat (first | (with_reducible first | exact HB.out | apply below_alloc | apply pw_below_drewN | apply below_drew1) | exact HB.out)⟩⟩
                · rw [if_neg c24] at H
                  have c24b0 : decide ((t405.size : Int) ≤ (l0.length : Int)) = false := decide_eq_false c24
                  have c24b1 : decide (t405.size ≤ l0.length) = false := decide_eq_false (fun h => c24 (Int.ofNat_le.mpr h))
                  clear c24
                  have H' := Aside0.mk H
                  clear H
                  obtain ⟨Ao26, co26, eo26⟩ := Kd.R_slice HO410.out
                  subst eo26
                  go_wp2_with (first | (go_at_call 15; (with_reducible refine (lookoutref08_Same.calls kj2 _ _ l0 _ _ t407 true _ ?side1 ?side2 ?side3 ?side4 A22.out).mono ?_); (case side1 => repeat (first | exact (Kd.V_reads' HO_0.out).2.2 | (with_reducible refine Kd.C_alloc ?_ _) | (with_reducible refine Kd.C_drewN ?_ _) | (with_reducible refine Kd.C_drew ?_))); (case side2 => exact (Kd.V_reads' HO_0.out).2.1); (case side3 => repeat (first | exact (Kd.R_reads' HO410.out).2.2 | (with_reducible refine Kd.C_alloc ?_ _) | (with_reducible refine Kd.C_drewN ?_ _) | (with_reducible refine Kd.C_drew ?_))); (case side4 => exact (Kd.R_reads' HO410.out).2.1); rintro e w' ⟨rfl, ⟨nd, rfl⟩⟩))
                  go_meet
                  case rel => exact ⟨_, (false), (by first | rfl | (simp; done) | (simp [*]; done)), H', ⟨by have := HJ2.out; first | omega | exact Nat.le_refl _⟩, ⟨by repeat (first | (with_reducible first | exact HB.out | apply below_alloc | apply pw_below_drewN | apply below_drew1) | exact HB.out)⟩⟩
              · replace c23 := Bool.eq_false_iff.mpr c23
                subst c23
                have H1 : (lookoutlaw08_PostingsCanonical.j1 kj2 a1 true) = some r := by rw [if_neg (show ¬ (false = true) by decide)] at H; exact H
                clear H
                have H := H1
                clear H1
                have H' := Aside0.mk H
                clear H
                obtain ⟨Ao27, co27, eo27⟩ := Kd.R_slice HO410.out
                subst eo27
                go_wp2_with (first | (go_at_call 15; (with_reducible refine (lookoutref08_Same.calls kj2 _ _ l0 _ _ t407 false _ ?side1 ?side2 ?side3 ?side4 A22.out).mono ?_); (case side1 => repeat (first | exact (Kd.V_reads' HO_0.out).2.2 | (with_reducible refine Kd.C_alloc ?_ _) | (with_reducible refine Kd.C_drewN ?_ _) | (with_reducible refine Kd.C_drew ?_))); (case side2 => exact (Kd.V_reads' HO_0.out).2.1); (case side3 => repeat (first | exact (Kd.R_reads' HO410.out).2.2 | (with_reducible refine Kd.C_alloc ?_ _) | (with_reducible refine Kd.C_drewN ?_ _) | (with_reducible refine Kd.C_drew ?_))); (case side4 => exact (Kd.R_reads' HO410.out).2.1); rintro e w' ⟨rfl, ⟨nd, rfl⟩⟩))
                go_meet
                case rel => exact ⟨_, (true), (by first | rfl | (simp; done) | (simp [*]; done)), H', ⟨by have := HJ2.out; first | omega | exact Nat.le_refl _⟩, ⟨by repeat (first | (with_reducible first | exact HB.out | apply below_alloc | apply pw_below_drewN | apply below_drew1) | exact HB.out)⟩⟩
            · rw [if_neg c21] at H
              have c21b0 : (t408 == 0) = false := beq_eq_false_iff_ne.mpr c21
              have c21b1 : (t408 != 0) = true := bne_iff_ne.mpr c21
              have H' := Aside0.mk H
              clear H
              go_wp2
              go_meet
              case rel => exact ⟨_, (true), (by first | rfl | (simp; done) | (simp [*]; done)), H', ⟨by have := HJ2.out; first | omega | exact Nat.le_refl _⟩, ⟨by repeat (first | (with_reducible first | exact HB.out | apply below_alloc | apply pw_below_drewN | apply below_drew1) | exact HB.out)⟩⟩
          · rw [if_neg c20] at H
            have c20b0 : (t406 == 0) = false := beq_eq_false_iff_ne.mpr c20
            have c20b1 : (t406 != 0) = true := bne_iff_ne.mpr c20
            (first | rw [c20b0] | (simp only [i64_w, i32_w]; rw [c20b0]) | skip)
            by_cases c28 : t405.toList = ([] : List UInt8)
            · rw [if_pos c28] at H
              have c28b0 : (t405.toList == ([] : List UInt8)) = true := beq_iff_eq.mpr c28
              have c28b1 : (t405.toList != ([] : List UInt8)) = false := bne_eq_false_iff_eq.mpr c28
              clear c28
              replace H := Option.bind_eq_some_iff.mp H
              obtain ⟨t412, A290, H⟩ := H
              replace H : (lookoutlaw08_PostingsCanonical.j1 kj2 a1 (t412 == 0)) = some r := H
              have A29 := Aside0.mk A290
              clear A290
              have H' := Aside0.mk H
              clear H
              go_wp2_with (first | (go_at_call 17; (with_reducible refine (postings_Check.calls kj2 _ _ l0 t412 _ ?side1 ?side2 A29.out).mono ?_); (case side1 => repeat (first | exact (Kd.V_reads' HO_0.out).2.2 | (with_reducible refine Kd.C_alloc ?_ _) | (with_reducible refine Kd.C_drewN ?_ _) | (with_reducible refine Kd.C_drew ?_))); (case side2 => exact (Kd.V_reads' HO_0.out).2.1); rintro e w' ⟨rfl, ⟨nd, rfl⟩⟩))
              go_meet
              case rel => exact ⟨_, ((t412 == 0)), (by first | rfl | (simp; done) | (simp [*]; done)), H', ⟨by have := HJ2.out; first | omega | exact Nat.le_refl _⟩, ⟨by repeat (first | (with_reducible first | exact HB.out | apply below_alloc | apply pw_below_drewN | apply below_drew1) | exact HB.out)⟩⟩
            · rw [if_neg c28] at H
              have c28b0 : (t405.toList == ([] : List UInt8)) = false := beq_eq_false_iff_ne.mpr c28
              have c28b1 : (t405.toList != ([] : List UInt8)) = true := bne_iff_ne.mpr c28
              have H' := Aside0.mk H
              clear H
              go_wp2
              go_meet
              case rel => exact ⟨_, (true), (by first | rfl | (simp; done) | (simp [*]; done)), H', ⟨by have := HJ2.out; first | omega | exact Nat.le_refl _⟩, ⟨by repeat (first | (with_reducible first | exact HB.out | apply below_alloc | apply pw_below_drewN | apply below_drew1) | exact HB.out)⟩⟩
        case rest =>
          clear HC17
          try clear c1
          try clear c2
          try clear p2
          try clear c5
          try clear c8
          try clear c12
          try clear c13
          try clear c16
          try clear c20
          try clear c20b0
          try clear c20b1
          try clear c21
          try clear c21b0
          try clear c21b1
          try clear c23
          try clear c24
          try clear c24b0
          try clear c24b1
          try clear c27
          try clear c28
          try clear c28b0
          try clear c28b1
          try clear p2
          obtain ⟨kq, x63_16, rfl, HA, HJ16, HB⟩ := hcut
          cases kq with
          | zero => exact absurd HA.out (by simp [lookoutlaw08_PostingsCanonical.j1])
          | succ kj16 =>
            have H := HA.out
            clear HA
            simp only [lookoutlaw08_PostingsCanonical.j1] at H
            by_cases c30 : x63_16 = true
            · subst c30
              have H1 : (none) = some r := by rw [if_pos rfl] at H; exact H
              clear H
              have H := H1
              clear H1
              exact absurd H (by simp)
            · replace c30 := Bool.eq_false_iff.mpr c30
              subst c30
              have H1 : ((postings_Decode.f kj16 a1).bind fun bt413 => ((postings_Encode.f kj16 bt413.1).bind fun bt417 => (if bt413.2 = 0 then (if bt417.2 = 0 then (if bt417.1.toList = a1.toList then ((postings_Check.f kj16 bt413.1).bind fun t419 => (if t419 = 0 then ((lookoutlaw08_awake.f kj16).bind fun t420 => (some t420)) else (none))) else (none)) else (none)) else (if (bt413.1.length : Int) = 0 then ((lookoutlaw08_awake.f kj16).bind fun t421 => (some t421)) else (none))))) = some r := by rw [if_neg (show ¬ (false = true) by decide)] at H; exact H
              clear H
              have H := H1
              clear H1
              replace H := Option.bind_eq_some_iff.mp H
              obtain ⟨⟨t413, t414⟩, A310, H⟩ := H
              replace H : ((postings_Encode.f kj16 t413).bind fun bt417 => (if t414 = 0 then (if bt417.2 = 0 then (if bt417.1.toList = a1.toList then ((postings_Check.f kj16 t413).bind fun t419 => (if t419 = 0 then ((lookoutlaw08_awake.f kj16).bind fun t420 => (some t420)) else (none))) else (none)) else (none)) else (if (t413.length : Int) = 0 then ((lookoutlaw08_awake.f kj16).bind fun t421 => (some t421)) else (none)))) = some r := H
              have A31 := Aside0.mk A310
              clear A310
              replace H := Option.bind_eq_some_iff.mp H
              obtain ⟨⟨t417, t418⟩, A320, H⟩ := H
              replace H : (if t414 = 0 then (if t418 = 0 then (if t417.toList = a1.toList then ((postings_Check.f kj16 t413).bind fun t419 => (if t419 = 0 then ((lookoutlaw08_awake.f kj16).bind fun t420 => (some t420)) else (none))) else (none)) else (none)) else (if (t413.length : Int) = 0 then ((lookoutlaw08_awake.f kj16).bind fun t421 => (some t421)) else (none))) = some r := H
              have A32 := Aside0.mk A320
              clear A320
              by_cases c33 : t414 = 0
              · rw [if_pos c33] at H
                have c33b0 : (t414 == 0) = true := beq_iff_eq.mpr c33
                have c33b1 : (t414 != 0) = false := bne_eq_false_iff_eq.mpr c33
                clear c33
                by_cases c34 : t418 = 0
                · rw [if_pos c34] at H
                  have c34b0 : (t418 == 0) = true := beq_iff_eq.mpr c34
                  have c34b1 : (t418 != 0) = false := bne_eq_false_iff_eq.mpr c34
                  clear c34
                  by_cases c35 : t417.toList = a1.toList
                  · rw [if_pos c35] at H
                    have c35b0 : (t417.toList == a1.toList) = true := beq_iff_eq.mpr c35
                    have c35b1 : (t417.toList != a1.toList) = false := bne_eq_false_iff_eq.mpr c35
                    clear c35
                    replace H := Option.bind_eq_some_iff.mp H
                    obtain ⟨t419, A360, H⟩ := H
                    replace H : (if t419 = 0 then ((lookoutlaw08_awake.f kj16).bind fun t420 => (some t420)) else (none)) = some r := H
                    have A36 := Aside0.mk A360
                    clear A360
                    by_cases c37 : t419 = 0
                    · rw [if_pos c37] at H
                      have c37b0 : (t419 == 0) = true := beq_iff_eq.mpr c37
                      have c37b1 : (t419 != 0) = false := bne_eq_false_iff_eq.mpr c37
                      clear c37
                      replace H := Option.bind_eq_some_iff.mp H
                      obtain ⟨t420, A380, H⟩ := H
                      replace H : (some t420) = some r := H
                      have A38 := Aside0.mk A380
                      clear A380
                      obtain rfl := Option.some.inj H
                      go_wp2_with (first | ((with_reducible refine gate_callee (f := 13) rfl ?_); refine goesL_ (some 66) rfl rfl Try.func13 (by kernel_rfl) rfl #[.string a1] rfl (by (try simp only [List.map_toArray, List.map_cons, List.map_nil]); first | done | rfl | (simp only [List.length_drop, List.length_take]; rfl)) ?_; (with_reducible refine (postings_Decode.calls kj16 a1 t413 t414 _ A31.out).mono ?_); rintro e w39 ⟨v415, rfl, ho0, hb⟩; refine ⟨_, rfl, ?_⟩; have n0_ := Aside0.mk (Kd.R_lower (Kd.R_newM (M := fun k_ => (w.heap.size ≤ k_)) ho0 (below_size (by repeat (first | (with_reducible first | exact HB.out | apply below_alloc | apply pw_below_drewN | apply below_drew1) | exact HB.out))) (fun k_ h_ => h_)) (below_size (by repeat (first | (with_reducible first | exact HB.out | apply below_alloc | apply pw_below_drewN | apply below_drew1) | exact HB.out)))); have n1_ := Aside0.mk (below_step (by repeat (first | (with_reducible first | exact HB.out | apply below_alloc | apply pw_below_drewN | apply below_drew1) | exact HB.out)) hb); clear HB; have HO416 := n0_; have HB := n1_; clear n0_ n1_; (try clear hb); (try clear hb2); (try clear hk); (try clear hi); (try clear ho0); obtain ⟨Ao40, co40, eo40⟩ := Kd.R_slice HO416.out; subst eo40) | ((with_reducible refine gate_callee (f := 27) rfl ?_); refine goesL_ (some 71) rfl rfl Try.func27 (by kernel_rfl) rfl #[.slice Ao40 t413.length co40] rfl (by (try simp only [List.map_toArray, List.map_cons, List.map_nil]); first | done | rfl | (simp only [List.length_drop, List.length_take]; rfl)) ?_; (with_reducible refine (postings_Encode.calls kj16 _ _ t413 t417 t418 _ ?side1 ?side2 A32.out).mono ?_); (case side1 => repeat (first | exact (Kd.R_reads' HO416.out).2.2 | (with_reducible refine Kd.C_alloc ?_ _) | (with_reducible refine Kd.C_drewN ?_ _) | (with_reducible refine Kd.C_drew ?_))); (case side2 => exact (Kd.R_reads' HO416.out).2.1); rintro e w41 ⟨rfl, hb⟩; refine ⟨_, rfl, ?_⟩; have n0_ := Aside0.mk (Kd.R_below (by (with_reducible repeat (first | apply Kd.R_alloc | apply Kd.R_drewN | apply Kd.R_drew)); exact HO416.out) hb); have n1_ := Aside0.mk (below_step (by repeat (first | (with_reducible first | exact HB.out | apply below_alloc | apply pw_below_drewN | apply below_drew1) | exact HB.out)) hb); clear HO416; clear HB; have HO416 := n0_; have HB := n1_; clear n0_ n1_; (try clear hb); (try clear hb2); (try clear hk); (try clear hi)) | (go_at_call 17; (with_reducible refine (postings_Check.calls kj16 _ _ t413 t419 _ ?side1 ?side2 A36.out).mono ?_); (case side1 => repeat (first | exact (Kd.R_reads' HO416.out).2.2 | (with_reducible refine Kd.C_alloc ?_ _) | (with_reducible refine Kd.C_drewN ?_ _) | (with_reducible refine Kd.C_drew ?_))); (case side2 => exact (Kd.R_reads' HO416.out).2.1); rintro e w' ⟨rfl, ⟨nd, rfl⟩⟩) | (go_at_call 12; (with_reducible refine (lookoutlaw08_awake.calls kj16  t420 _ A38.out).mono ?_); rintro e w42 ⟨rfl, hb⟩; have n0_ := Aside0.mk (Kd.R_below (by (with_reducible repeat (first | apply Kd.R_alloc | apply Kd.R_drewN | apply Kd.R_drew)); exact HO416.out) hb); have n1_ := Aside0.mk (below_step (by repeat (first | (with_reducible first | exact HB.out | apply below_alloc | apply pw_below_drewN | apply below_drew1) | exact HB.out)) hb); clear HO416; clear HB; have HO416 := n0_; have HB := n1_; clear n0_ n1_; (try clear hb); (try clear hb2); (try clear hk); (try clear hi)))
                      go_ret
                      exact ⟨by first | rfl | (simp [errW_none, errW_some] <;> rfl) | (simp [*, errW_none, errW_some] <;> rfl), by repeat (first | (with_reducible first | exact HB.out | apply below_alloc | apply pw_below_drewN | apply below_drew1) | exact HB.out)⟩
                    · rw [if_neg c37] at H
                      exact absurd H (by simp)
                  · rw [if_neg c35] at H
                    exact absurd H (by simp)
                · rw [if_neg c34] at H
                  exact absurd H (by simp)
              · rw [if_neg c33] at H
                have c33b0 : (t414 == 0) = false := beq_eq_false_iff_ne.mpr c33
                have c33b1 : (t414 != 0) = true := bne_iff_ne.mpr c33
                by_cases c43 : (t413.length : Int) = 0
                · rw [if_pos c43] at H
                  have c43b0 : ((t413.length : Int) == 0) = true := beq_iff_eq.mpr c43
                  have c43b1 : ((t413.length : Int) != 0) = false := bne_eq_false_iff_eq.mpr c43
                  clear c43
                  replace H := Option.bind_eq_some_iff.mp H
                  obtain ⟨t421, A440, H⟩ := H
                  replace H : (some t421) = some r := H
                  have A44 := Aside0.mk A440
                  clear A440
                  obtain rfl := Option.some.inj H
                  go_wp2_with (first | ((with_reducible refine gate_callee (f := 13) rfl ?_); refine goesL_ (some 66) rfl rfl Try.func13 (by kernel_rfl) rfl #[.string a1] rfl (by (try simp only [List.map_toArray, List.map_cons, List.map_nil]); first | done | rfl | (simp only [List.length_drop, List.length_take]; rfl)) ?_; (with_reducible refine (postings_Decode.calls kj16 a1 t413 t414 _ A31.out).mono ?_); rintro e w45 ⟨v415, rfl, ho0, hb⟩; refine ⟨_, rfl, ?_⟩; have n0_ := Aside0.mk (Kd.R_lower (Kd.R_newM (M := fun k_ => (w.heap.size ≤ k_)) ho0 (below_size (by repeat (first | (with_reducible first | exact HB.out | apply below_alloc | apply pw_below_drewN | apply below_drew1) | exact HB.out))) (fun k_ h_ => h_)) (below_size (by repeat (first | (with_reducible first | exact HB.out | apply below_alloc | apply pw_below_drewN | apply below_drew1) | exact HB.out)))); have n1_ := Aside0.mk (below_step (by repeat (first | (with_reducible first | exact HB.out | apply below_alloc | apply pw_below_drewN | apply below_drew1) | exact HB.out)) hb); clear HB; have HO416 := n0_; have HB := n1_; clear n0_ n1_; (try clear hb); (try clear hb2); (try clear hk); (try clear hi); (try clear ho0); obtain ⟨Ao46, co46, eo46⟩ := Kd.R_slice HO416.out; subst eo46) | ((with_reducible refine gate_callee (f := 27) rfl ?_); refine goesL_ (some 71) rfl rfl Try.func27 (by kernel_rfl) rfl #[.slice Ao46 t413.length co46] rfl (by (try simp only [List.map_toArray, List.map_cons, List.map_nil]); first | done | rfl | (simp only [List.length_drop, List.length_take]; rfl)) ?_; (with_reducible refine (postings_Encode.calls kj16 _ _ t413 t417 t418 _ ?side1 ?side2 A32.out).mono ?_); (case side1 => repeat (first | exact (Kd.R_reads' HO416.out).2.2 | (with_reducible refine Kd.C_alloc ?_ _) | (with_reducible refine Kd.C_drewN ?_ _) | (with_reducible refine Kd.C_drew ?_))); (case side2 => exact (Kd.R_reads' HO416.out).2.1); rintro e w47 ⟨rfl, hb⟩; refine ⟨_, rfl, ?_⟩; have n0_ := Aside0.mk (Kd.R_below (by (with_reducible repeat (first | apply Kd.R_alloc | apply Kd.R_drewN | apply Kd.R_drew)); exact HO416.out) hb); have n1_ := Aside0.mk (below_step (by repeat (first | (with_reducible first | exact HB.out | apply below_alloc | apply pw_below_drewN | apply below_drew1) | exact HB.out)) hb); clear HO416; clear HB; have HO416 := n0_; have HB := n1_; clear n0_ n1_; (try clear hb); (try clear hb2); (try clear hk); (try clear hi)) | (go_at_call 12; (with_reducible refine (lookoutlaw08_awake.calls kj16  t421 _ A44.out).mono ?_); rintro e w48 ⟨rfl, hb⟩; have n0_ := Aside0.mk (Kd.R_below (by (with_reducible repeat (first | apply Kd.R_alloc | apply Kd.R_drewN | apply Kd.R_drew)); exact HO416.out) hb); have n1_ := Aside0.mk (below_step (by repeat (first | (with_reducible first | exact HB.out | apply below_alloc | apply pw_below_drewN | apply below_drew1) | exact HB.out)) hb); clear HO416; clear HB; have HO416 := n0_; have HB := n1_; clear n0_ n1_; (try clear hb); (try clear hb2); (try clear hk); (try clear hi)))
                  go_ret
                  exact ⟨by first | rfl | (simp [errW_none, errW_some] <;> rfl) | (simp [*, errW_none, errW_some] <;> rfl), by repeat (first | (with_reducible first | exact HB.out | apply below_alloc | apply pw_below_drewN | apply below_drew1) | exact HB.out)⟩
                · rw [if_neg c43] at H
                  exact absurd H (by simp)

/-- THE ONE PURE STATEMENT of lookoutlaw08_PostingsCanonical. -/
def lookoutlaw08_PostingsCanonical.Pure : Prop := ∀ (l0 : List Int) (a1 : ByteArray), l0.length ≤ maxLen → l0.length * 8 ≤ 140737488351232 → (∀ x ∈ l0, (Lit.int .i64 x).wf = true) → a1.size ≤ 140737488351232 → ∃ k, lookoutlaw08_PostingsCanonical.f k l0 a1 = some true

end Go.Proofs.Ytdmdhpnlalekfaa.P
