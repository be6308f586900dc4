/- Printed by a program of this session: functions of the law's Go code as Lean functions, and that the Go code computes them. No condition beyond those in the statements. -/
import Derived.Test.YtfklecicddpcjaaPx0
import Derived.Test.YtfklecicddpcjaaPx32
import Derived.Test.YtfklecicddpcjaaPx33
import Derived.Test.YtfklecicddpcjaaPx34
import Derived.Test.YtfklecicddpcjaaPx39
import Derived.Test.YtfklecicddpcjaaPx40
import Derived.Test.YtfklecicddpcjaaPx41
import Derived.Test.YtfklecicddpcjaaPx42
import Derived.Test.YtfklecicddpcjaaPx43
import Derived.Test.YtfklecicddpcjaaPx44
namespace Go.Proofs.Ytfklecicddpcjaa.P
open Go.RowKit Go.Proofs.YtfklecicddpcjaaW.PrintWords Go.Proofs.YtfklecicddpcjaaW.PrintLast Go.Proofs.YtfklecicddpcjaaW.PrintMore Go.Proofs.Ytfklecicddpcjaa.Hand Go.Proofs.Ytfklecicddpcjaa.A
attribute [local go_sem] max2_int min2_int max_two min_two max_three min_three max_four min_four   -- for this text's walks alone
set_option linter.unusedVariables false
set_option linter.unusedSimpArgs false

/-! ### lookoutlaw10_DictcolDecode: function 8 -/
def lookoutlaw10_DictcolDecode.j0 : Nat → ByteArray → ByteArray → Int → Bool → Option (Bool)
  | 0, _, _, _, _ => none
  | k + 1, x0, x1, x2, x30 => if x30 = true then ((lookoutlaw10_awake.f k).bind fun t416 => (some t416)) else ((dictcol_Decode.f k x0).bind fun bt417 => ((lookoutref10_Decode.f k x0).bind fun bt421 => ((dictcol_Distinct.f k x0).bind fun bt425 => ((lookoutref10_Distinct.f k x0).bind fun bt429 => ((dictcol_Lookup.f k x0 x1).bind fun bt433 => ((lookoutref10_Lookup.f k x0 x1).bind fun bt437 => ((dictcol_At.f k x0 x2).bind fun bt441 => ((lookoutref10_At.f k x0 x2).bind fun bt443 => ((lookoutref10_Same.f k bt417.1 bt421.1).bind fun t445 => (if t445 = true then (if bt417.2 = bt421.2 then ((lookoutref10_Same.f k bt425.1 bt429.1).bind fun t446 => (if t446 = true then (if bt425.2 = bt429.2 then ((lookoutref01_Same.f k bt433.1 bt437.1).bind fun t447 => (if t447 = true then (if bt433.2 = bt437.2 then (if bt441.1.toList = bt443.1.toList then (if bt441.2 = bt443.2 then ((lookoutlaw10_awake.f k).bind fun t448 => (some t448)) else (none)) else (none)) else (none)) else (none))) else (none)) else (none))) else (none)) else (none)))))))))))
def lookoutlaw10_DictcolDecode.f (k : Nat) (a0 : ByteArray) (a1 : ByteArray) (a2 : Int) : Option (Bool) := if (a0.size : Int) > 600 then (lookoutlaw10_DictcolDecode.j0 k a0 a1 a2 true) else (lookoutlaw10_DictcolDecode.j0 k a0 a1 a2 (decide ((a1.size : Int) > 600)))
theorem lookoutlaw10_DictcolDecode.mono_l : ∀ k, (∀ y0 y1 y2 y3, LeO (lookoutlaw10_DictcolDecode.j0 k y0 y1 y2 y3) (lookoutlaw10_DictcolDecode.j0 (k + 1) y0 y1 y2 y3))
  | 0 => fun _ _ _ _ r h => by simp [lookoutlaw10_DictcolDecode.j0] at h
  | k + 1 => by
    have ih0 := lookoutlaw10_DictcolDecode.mono_l k
    · intro y0 y1 y2 y3
      unfold lookoutlaw10_DictcolDecode.j0
      repeat' first
      | (with_reducible exact ih0 _ _ _ _)
      | (with_reducible exact dictcol_At.mono _ _ _)
      | (with_reducible exact dictcol_Decode.mono _ _)
      | (with_reducible exact dictcol_Distinct.mono _ _)
      | (with_reducible exact dictcol_Lookup.mono _ _ _)
      | (with_reducible exact lookoutlaw10_awake.mono _)
      | (with_reducible exact lookoutref01_Same.mono _ _ _)
      | (with_reducible exact lookoutref10_At.mono _ _ _)
      | (with_reducible exact lookoutref10_Decode.mono _ _)
      | (with_reducible exact lookoutref10_Distinct.mono _ _)
      | (with_reducible exact lookoutref10_Lookup.mono _ _ _)
      | (with_reducible exact lookoutref10_Same.mono _ _ _)
      | (with_reducible exact LeO.refl _)
      | (with_reducible exact LeO.none _)
      | (with_reducible refine LeO.ite ?_ ?_)
      | (with_reducible refine LeO.bind ?_ (fun _ => ?_))
      | exact ih0 _ _ _ _
      | exact dictcol_At.mono _ _ _
      | exact dictcol_Decode.mono _ _
      | exact dictcol_Distinct.mono _ _
      | exact dictcol_Lookup.mono _ _ _
      | exact lookoutlaw10_awake.mono _
      | exact lookoutref01_Same.mono _ _ _
      | exact lookoutref10_At.mono _ _ _
      | exact lookoutref10_Decode.mono _ _
      | exact lookoutref10_Distinct.mono _ _
      | exact lookoutref10_Lookup.mono _ _ _
      | exact lookoutref10_Same.mono _ _ _
      | exact LeO.none _
      | refine LeO.ite ?_ ?_
      | refine LeO.bind ?_ (fun _ => ?_)
theorem lookoutlaw10_DictcolDecode.mono : ∀ a0 a1 a2 k, LeO (lookoutlaw10_DictcolDecode.f k a0 a1 a2) (lookoutlaw10_DictcolDecode.f (k + 1) a0 a1 a2) := by
  intro a0 a1 a2 k
  have ih0 := lookoutlaw10_DictcolDecode.mono_l k
  unfold lookoutlaw10_DictcolDecode.f
  repeat' first
      | (with_reducible exact ih0 _ _ _ _)
      | (with_reducible exact dictcol_At.mono _ _ _)
      | (with_reducible exact dictcol_Decode.mono _ _)
      | (with_reducible exact dictcol_Distinct.mono _ _)
      | (with_reducible exact dictcol_Lookup.mono _ _ _)
      | (with_reducible exact lookoutlaw10_awake.mono _)
      | (with_reducible exact lookoutref01_Same.mono _ _ _)
      | (with_reducible exact lookoutref10_At.mono _ _ _)
      | (with_reducible exact lookoutref10_Decode.mono _ _)
      | (with_reducible exact lookoutref10_Distinct.mono _ _)
      | (with_reducible exact lookoutref10_Lookup.mono _ _ _)
      | (with_reducible exact lookoutref10_Same.mono _ _ _)
      | (with_reducible exact LeO.refl _)
      | (with_reducible exact LeO.none _)
      | (with_reducible refine LeO.ite ?_ ?_)
      | (with_reducible refine LeO.bind ?_ (fun _ => ?_))
      | exact ih0 _ _ _ _
      | exact dictcol_At.mono _ _ _
      | exact dictcol_Decode.mono _ _
      | exact dictcol_Distinct.mono _ _
      | exact dictcol_Lookup.mono _ _ _
      | exact lookoutlaw10_awake.mono _
      | exact lookoutref01_Same.mono _ _ _
      | exact lookoutref10_At.mono _ _ _
      | exact lookoutref10_Decode.mono _ _
      | exact lookoutref10_Distinct.mono _ _
      | exact lookoutref10_Lookup.mono _ _ _
      | exact lookoutref10_Same.mono _ _ _
      | exact LeO.none _
      | refine LeO.ite ?_ ?_
      | refine LeO.bind ?_ (fun _ => ?_)
set_option maxHeartbeats 8000000 in
set_option maxRecDepth 100000 in
theorem lookoutlaw10_DictcolDecode.calls (k : Nat) (a0 : ByteArray) (a1 : ByteArray) (a2 : Int) (r : Bool) (w : World) (h : lookoutlaw10_DictcolDecode.f k a0 a1 a2 = some r) :
    Calls Try.prog 8 #[.string a0, .string a1, .int .i64 a2] w fun e w' => e = .returned (.bool r) ∧ Below w.heap.size w w' := by
  have HB := Aside0.mk (Below.refl w.heap.size w)
  have H : (if (a0.size : Int) > 600 then (lookoutlaw10_DictcolDecode.j0 k a0 a1 a2 true) else (lookoutlaw10_DictcolDecode.j0 k a0 a1 a2 (decide ((a1.size : Int) > 600)))) = some r := h
  clear h
  have HC4 := Aside0.mk H
  clear H
  go_enter Try.func8, Try.ntmps8
  go_upto_region 1 with (fail)
  go_cut [30] (fun v30 wc => ∃ (kq : Nat) (x30_3 : Bool), v30 = .bool x30_3 ∧ Aside0 (lookoutlaw10_DictcolDecode.j0 kq a0 a1 a2 x30_3 = some r) ∧ Aside0 (kq ≤ k) ∧ Aside0 (Below w.heap.size w wc))
  case first =>
    have H := HC4.out
    clear HC4
    by_cases c5 : (a0.size : Int) > 600
    · rw [if_pos c5] at H
      have c5b0 : decide (600 < (a0.size : Int)) = true := decide_eq_true c5
      have c5b1 : decide (600 < a0.size) = true := decide_eq_true (by omega)
      clear c5
      (first | rw [c5b0] | (simp only [i64_w, i32_w]; rw [c5b0]) | rw [c5b1] | (simp only [i64_w, i32_w]; rw [c5b1]) | skip)
      have H' := Aside0.mk H
      clear H
      go_wp2
      go_meet
      case rel => exact ⟨_, (true), (by first | rfl | (simp; done) | (simp [*]; done)), H', ⟨by first | omega | exact Nat.le_refl _⟩, ⟨by repeat (first | (with_reducible first | exact HB.out | apply below_alloc | apply pw_below_drewN | apply below_drew1) | exact HB.out)⟩⟩
    · rw [if_neg c5] at H
      have c5b0 : decide (600 < (a0.size : Int)) = false := decide_eq_false c5
      have c5b1 : decide (600 < a0.size) = false := decide_eq_false (by omega)
      clear c5
      (first | rw [c5b0] | (simp only [i64_w, i32_w]; rw [c5b0]) | rw [c5b1] | (simp only [i64_w, i32_w]; rw [c5b1]) | skip)
      have H' := Aside0.mk H
      clear H
      go_wp2
      go_meet
      case rel => exact ⟨_, (decide ((a1.size : Int) > 600)), (by first | rfl | (simp; done) | (simp [*]; done)), H', ⟨by first | omega | exact Nat.le_refl _⟩, ⟨by repeat (first | (with_reducible first | exact HB.out | apply below_alloc | apply pw_below_drewN | apply below_drew1) | exact HB.out)⟩⟩
  case rest =>
    clear HC4
    try clear p2
    try clear c5
    try clear c5b0
    try clear c5b1
    obtain ⟨kq, x30_3, rfl, HA, HJ3, HB⟩ := hcut
    cases kq with
    | zero => exact absurd HA.out (by simp [lookoutlaw10_DictcolDecode.j0])
    | succ kj3 =>
      have H := HA.out
      clear HA
      simp only [lookoutlaw10_DictcolDecode.j0] at H
      by_cases c6 : x30_3 = true
      · subst c6
        have H1 : ((lookoutlaw10_awake.f kj3).bind fun t416 => (some t416)) = some r := by rw [if_pos rfl] at H; exact H
        clear H
        have H := H1
        clear H1
        replace H := Option.bind_eq_some_iff.mp H
        obtain ⟨t416, A70, H⟩ := H
        replace H : (some t416) = some r := H
        have A7 := Aside0.mk A70
        clear A70
        obtain rfl := Option.some.inj H
        go_wp2_with (first | ((with_reducible refine gate_callee (f := 12) rfl ?_); refine goesL_ (some 31) rfl rfl Try.func12 (by kernel_rfl) rfl #[] rfl (by (try simp only [List.map_toArray, List.map_cons, List.map_nil]); first | done | rfl | (simp only [List.length_drop, List.length_take]; rfl)) ?_; (with_reducible refine (lookoutlaw10_awake.calls kj3  t416 _ A7.out).mono ?_); rintro e w8 ⟨rfl, hb⟩; refine ⟨_, rfl, ?_⟩; have n0_ := Aside0.mk (below_step (by repeat (first | (with_reducible first | exact HB.out | apply below_alloc | apply pw_below_drewN | apply below_drew1) | exact HB.out)) hb); clear HB; have HB := n0_; clear n0_; (try clear hb); (try clear hb2); (try clear hk); (try clear hi)))
        go_ret
        exact ⟨by first | rfl | (simp [errW_none, errW_some] <;> rfl) | (simp [*, errW_none, errW_some] <;> rfl), by repeat (first | (with_reducible first | exact HB.out | apply below_alloc | apply pw_below_drewN | apply below_drew1) | exact HB.out)⟩
      · replace c6 := Bool.eq_false_iff.mpr c6
        subst c6
        have H1 : ((dictcol_Decode.f kj3 a0).bind fun bt417 => ((lookoutref10_Decode.f kj3 a0).bind fun bt421 => ((dictcol_Distinct.f kj3 a0).bind fun bt425 => ((lookoutref10_Distinct.f kj3 a0).bind fun bt429 => ((dictcol_Lookup.f kj3 a0 a1).bind fun bt433 => ((lookoutref10_Lookup.f kj3 a0 a1).bind fun bt437 => ((dictcol_At.f kj3 a0 a2).bind fun bt441 => ((lookoutref10_At.f kj3 a0 a2).bind fun bt443 => ((lookoutref10_Same.f kj3 bt417.1 bt421.1).bind fun t445 => (if t445 = true then (if bt417.2 = bt421.2 then ((lookoutref10_Same.f kj3 bt425.1 bt429.1).bind fun t446 => (if t446 = true then (if bt425.2 = bt429.2 then ((lookoutref01_Same.f kj3 bt433.1 bt437.1).bind fun t447 => (if t447 = true then (if bt433.2 = bt437.2 then (if bt441.1.toList = bt443.1.toList then (if bt441.2 = bt443.2 then ((lookoutlaw10_awake.f kj3).bind fun t448 => (some t448)) else (none)) else (none)) else (none)) else (none))) else (none)) else (none))) else (none)) else (none))))))))))) = some r := by rw [if_neg (show ¬ (false = true) by decide)] at H; exact H
        clear H
        have H := H1
        clear H1
        replace H := Option.bind_eq_some_iff.mp H
        obtain ⟨⟨t417, t418⟩, A90, H⟩ := H
        replace H : ((lookoutref10_Decode.f kj3 a0).bind fun bt421 => ((dictcol_Distinct.f kj3 a0).bind fun bt425 => ((lookoutref10_Distinct.f kj3 a0).bind fun bt429 => ((dictcol_Lookup.f kj3 a0 a1).bind fun bt433 => ((lookoutref10_Lookup.f kj3 a0 a1).bind fun bt437 => ((dictcol_At.f kj3 a0 a2).bind fun bt441 => ((lookoutref10_At.f kj3 a0 a2).bind fun bt443 => ((lookoutref10_Same.f kj3 t417 bt421.1).bind fun t445 => (if t445 = true then (if t418 = bt421.2 then ((lookoutref10_Same.f kj3 bt425.1 bt429.1).bind fun t446 => (if t446 = true then (if bt425.2 = bt429.2 then ((lookoutref01_Same.f kj3 bt433.1 bt437.1).bind fun t447 => (if t447 = true then (if bt433.2 = bt437.2 then (if bt441.1.toList = bt443.1.toList then (if bt441.2 = bt443.2 then ((lookoutlaw10_awake.f kj3).bind fun t448 => (some t448)) else (none)) else (none)) else (none)) else (none))) else (none)) else (none))) else (none)) else (none)))))))))) = some r := H
        have A9 := Aside0.mk A90
        clear A90
        replace H := Option.bind_eq_some_iff.mp H
        obtain ⟨⟨t421, t422⟩, A100, H⟩ := H
        replace H : ((dictcol_Distinct.f kj3 a0).bind fun bt425 => ((lookoutref10_Distinct.f kj3 a0).bind fun bt429 => ((dictcol_Lookup.f kj3 a0 a1).bind fun bt433 => ((lookoutref10_Lookup.f kj3 a0 a1).bind fun bt437 => ((dictcol_At.f kj3 a0 a2).bind fun bt441 => ((lookoutref10_At.f kj3 a0 a2).bind fun bt443 => ((lookoutref10_Same.f kj3 t417 t421).bind fun t445 => (if t445 = true then (if t418 = t422 then ((lookoutref10_Same.f kj3 bt425.1 bt429.1).bind fun t446 => (if t446 = true then (if bt425.2 = bt429.2 then ((lookoutref01_Same.f kj3 bt433.1 bt437.1).bind fun t447 => (if t447 = true then (if bt433.2 = bt437.2 then (if bt441.1.toList = bt443.1.toList then (if bt441.2 = bt443.2 then ((lookoutlaw10_awake.f kj3).bind fun t448 => (some t448)) else (none)) else (none)) else (none)) else (none))) else (none)) else (none))) else (none)) else (none))))))))) = some r := H
        have A10 := Aside0.mk A100
        clear A100
        replace H := Option.bind_eq_some_iff.mp H
        obtain ⟨⟨t425, t426⟩, A110, H⟩ := H
        replace H : ((lookoutref10_Distinct.f kj3 a0).bind fun bt429 => ((dictcol_Lookup.f kj3 a0 a1).bind fun bt433 => ((lookoutref10_Lookup.f kj3 a0 a1).bind fun bt437 => ((dictcol_At.f kj3 a0 a2).bind fun bt441 => ((lookoutref10_At.f kj3 a0 a2).bind fun bt443 => ((lookoutref10_Same.f kj3 t417 t421).bind fun t445 => (if t445 = true then (if t418 = t422 then ((lookoutref10_Same.f kj3 t425 bt429.1).bind fun t446 => (if t446 = true then (if t426 = bt429.2 then ((lookoutref01_Same.f kj3 bt433.1 bt437.1).bind fun t447 => (if t447 = true then (if bt433.2 = bt437.2 then (if bt441.1.toList = bt443.1.toList then (if bt441.2 = bt443.2 then ((lookoutlaw10_awake.f kj3).bind fun t448 => (some t448)) else (none)) else (none)) else (none)) else (none))) else (none)) else (none))) else (none)) else (none)))))))) = some r := H
        have A11 := Aside0.mk A110
        clear A110
        replace H := Option.bind_eq_some_iff.mp H
        obtain ⟨⟨t429, t430⟩, A120, H⟩ := H
        replace H : ((dictcol_Lookup.f kj3 a0 a1).bind fun bt433 => ((lookoutref10_Lookup.f kj3 a0 a1).bind fun bt437 => ((dictcol_At.f kj3 a0 a2).bind fun bt441 => ((lookoutref10_At.f kj3 a0 a2).bind fun bt443 => ((lookoutref10_Same.f kj3 t417 t421).bind fun t445 => (if t445 = true then (if t418 = t422 then ((lookoutref10_Same.f kj3 t425 t429).bind fun t446 => (if t446 = true then (if t426 = t430 then ((lookoutref01_Same.f kj3 bt433.1 bt437.1).bind fun t447 => (if t447 = true then (if bt433.2 = bt437.2 then (if bt441.1.toList = bt443.1.toList then (if bt441.2 = bt443.2 then ((lookoutlaw10_awake.f kj3).bind fun t448 => (some t448)) else (none)) else (none)) else (none)) else (none))) else (none)) else (none))) else (none)) else (none))))))) = some r := H
        have A12 := Aside0.mk A120
        clear A120
        replace H := Option.bind_eq_some_iff.mp H
        obtain ⟨⟨t433, t434⟩, A130, H⟩ := H
        replace H : ((lookoutref10_Lookup.f kj3 a0 a1).bind fun bt437 => ((dictcol_At.f kj3 a0 a2).bind fun bt441 => ((lookoutref10_At.f kj3 a0 a2).bind fun bt443 => ((lookoutref10_Same.f kj3 t417 t421).bind fun t445 => (if t445 = true then (if t418 = t422 then ((lookoutref10_Same.f kj3 t425 t429).bind fun t446 => (if t446 = true then (if t426 = t430 then ((lookoutref01_Same.f kj3 t433 bt437.1).bind fun t447 => (if t447 = true then (if t434 = bt437.2 then (if bt441.1.toList = bt443.1.toList then (if bt441.2 = bt443.2 then ((lookoutlaw10_awake.f kj3).bind fun t448 => (some t448)) else (none)) else (none)) else (none)) else (none))) else (none)) else (none))) else (none)) else (none)))))) = some r := H
        have A13 := Aside0.mk A130
        clear A130
        replace H := Option.bind_eq_some_iff.mp H
        obtain ⟨⟨t437, t438⟩, A140, H⟩ := H
        replace H : ((dictcol_At.f kj3 a0 a2).bind fun bt441 => ((lookoutref10_At.f kj3 a0 a2).bind fun bt443 => ((lookoutref10_Same.f kj3 t417 t421).bind fun t445 => (if t445 = true then (if t418 = t422 then ((lookoutref10_Same.f kj3 t425 t429).bind fun t446 => (if t446 = true then (if t426 = t430 then ((lookoutref01_Same.f kj3 t433 t437).bind fun t447 => (if t447 = true then (if t434 = t438 then (if bt441.1.toList = bt443.1.toList then (if bt441.2 = bt443.2 then ((lookoutlaw10_awake.f kj3).bind fun t448 => (some t448)) else (none)) else (none)) else (none)) else (none))) else (none)) else (none))) else (none)) else (none))))) = some r := H
        have A14 := Aside0.mk A140
        clear A140
        replace H := Option.bind_eq_some_iff.mp H
        obtain ⟨⟨t441, t442⟩, A150, H⟩ := H
        replace H : ((lookoutref10_At.f kj3 a0 a2).bind fun bt443 => ((lookoutref10_Same.f kj3 t417 t421).bind fun t445 => (if t445 = true then (if t418 = t422 then ((lookoutref10_Same.f kj3 t425 t429).bind fun t446 => (if t446 = true then (if t426 = t430 then ((lookoutref01_Same.f kj3 t433 t437).bind fun t447 => (if t447 = true then (if t434 = t438 then (if t441.toList = bt443.1.toList then (if t442 = bt443.2 then ((lookoutlaw10_awake.f kj3).bind fun t448 => (some t448)) else (none)) else (none)) else (none)) else (none))) else (none)) else (none))) else (none)) else (none)))) = some r := H
        have A15 := Aside0.mk A150
        clear A150
        replace H := Option.bind_eq_some_iff.mp H
        obtain ⟨⟨t443, t444⟩, A160, H⟩ := H
        replace H : ((lookoutref10_Same.f kj3 t417 t421).bind fun t445 => (if t445 = true then (if t418 = t422 then ((lookoutref10_Same.f kj3 t425 t429).bind fun t446 => (if t446 = true then (if t426 = t430 then ((lookoutref01_Same.f kj3 t433 t437).bind fun t447 => (if t447 = true then (if t434 = t438 then (if t441.toList = t443.toList then (if t442 = t444 then ((lookoutlaw10_awake.f kj3).bind fun t448 => (some t448)) else (none)) else (none)) else (none)) else (none))) else (none)) else (none))) else (none)) else (none))) = some r := H
        have A16 := Aside0.mk A160
        clear A160
        replace H := Option.bind_eq_some_iff.mp H
        obtain ⟨t445, A170, H⟩ := H
        replace H : (if t445 = true then (if t418 = t422 then ((lookoutref10_Same.f kj3 t425 t429).bind fun t446 => (if t446 = true then (if t426 = t430 then ((lookoutref01_Same.f kj3 t433 t437).bind fun t447 => (if t447 = true then (if t434 = t438 then (if t441.toList = t443.toList then (if t442 = t444 then ((lookoutlaw10_awake.f kj3).bind fun t448 => (some t448)) else (none)) else (none)) else (none)) else (none))) else (none)) else (none))) else (none)) else (none)) = some r := H
        have A17 := Aside0.mk A170
        clear A170
        by_cases c18 : t445 = true
        · subst c18
          have H1 : (if t418 = t422 then ((lookoutref10_Same.f kj3 t425 t429).bind fun t446 => (if t446 = true then (if t426 = t430 then ((lookoutref01_Same.f kj3 t433 t437).bind fun t447 => (if t447 = true then (if t434 = t438 then (if t441.toList = t443.toList then (if t442 = t444 then ((lookoutlaw10_awake.f kj3).bind fun t448 => (some t448)) else (none)) else (none)) else (none)) else (none))) else (none)) else (none))) else (none)) = some r := by rw [if_pos rfl] at H; exact H
          clear H
          have H := H1
          clear H1
          by_cases c19 : t418 = t422
          · rw [if_pos c19] at H
            have c19b0 : (t418 == t422) = true := beq_iff_eq.mpr c19
            have c19b1 : (t418 != t422) = false := bne_eq_false_iff_eq.mpr c19
            clear c19
            replace H := Option.bind_eq_some_iff.mp H
            obtain ⟨t446, A200, H⟩ := H
            replace H : (if t446 = true then (if t426 = t430 then ((lookoutref01_Same.f kj3 t433 t437).bind fun t447 => (if t447 = true then (if t434 = t438 then (if t441.toList = t443.toList then (if t442 = t444 then ((lookoutlaw10_awake.f kj3).bind fun t448 => (some t448)) else (none)) else (none)) else (none)) else (none))) else (none)) else (none)) = some r := H
            have A20 := Aside0.mk A200
            clear A200
            by_cases c21 : t446 = true
            · subst c21
              have H1 : (if t426 = t430 then ((lookoutref01_Same.f kj3 t433 t437).bind fun t447 => (if t447 = true then (if t434 = t438 then (if t441.toList = t443.toList then (if t442 = t444 then ((lookoutlaw10_awake.f kj3).bind fun t448 => (some t448)) else (none)) else (none)) else (none)) else (none))) else (none)) = some r := by rw [if_pos rfl] at H; exact H
              clear H
              have H := H1
              clear H1
              by_cases c22 : t426 = t430
              · rw [if_pos c22] at H
                have c22b0 : (t426 == t430) = true := beq_iff_eq.mpr c22
                have c22b1 : (t426 != t430) = false := bne_eq_false_iff_eq.mpr c22
                clear c22
                replace H := Option.bind_eq_some_iff.mp H
                obtain ⟨t447, A230, H⟩ := H
                replace H : (if t447 = true then (if t434 = t438 then (if t441.toList = t443.toList then (if t442 = t444 then ((lookoutlaw10_awake.f kj3).bind fun t448 => (some t448)) else (none)) else (none)) else (none)) else (none)) = some r := H
                have A23 := Aside0.mk A230
                clear A230
                by_cases c24 : t447 = true
                · subst c24
                  have H1 : (if t434 = t438 then (if t441.toList = t443.toList then (if t442 = t444 then ((lookoutlaw10_awake.f kj3).bind fun t448 => (some t448)) else (none)) else (none)) else (none)) = some r := by rw [if_pos rfl] at H; exact H
                  clear H
                  have H := H1
                  clear H1
                  by_cases c25 : t434 = t438
                  · rw [if_pos c25] at H
                    have c25b0 : (t434 == t438) = true := beq_iff_eq.mpr c25
                    have c25b1 : (t434 != t438) = false := bne_eq_false_iff_eq.mpr c25
                    clear c25
                    by_cases c26 : t441.toList = t443.toList
                    · rw [if_pos c26] at H
                      have c26b0 : (t441.toList == t443.toList) = true := beq_iff_eq.mpr c26
                      have c26b1 : (t441.toList != t443.toList) = false := bne_eq_false_iff_eq.mpr c26
                      clear c26
                      by_cases c27 : t442 = t444
                      · rw [if_pos c27] at H
                        have c27b0 : (t442 == t444) = true := beq_iff_eq.mpr c27
                        have c27b1 : (t442 != t444) = false := bne_eq_false_iff_eq.mpr c27
                        clear c27
                        replace H := Option.bind_eq_some_iff.mp H
                        obtain ⟨t448, A280, H⟩ := H
                        replace H : (some t448) = some r := H
                        have A28 := Aside0.mk A280
                        clear A280
                        obtain rfl := Option.some.inj H
                        go_wp2_with (first | ((with_reducible refine gate_callee (f := 18) rfl ?_); refine goesL_ (some 34) rfl rfl Try.func18 (by kernel_rfl) rfl #[.string a0] rfl (by (try simp only [List.map_toArray, List.map_cons, List.map_nil]); first | done | rfl | (simp only [List.length_drop, List.length_take]; rfl)) ?_; (with_reducible refine (dictcol_Decode.calls kj3 a0 t417 t418 _ A9.out).mono ?_); rintro e w29 ⟨v419, rfl, ho0, hb⟩; refine ⟨_, rfl, ?_⟩; have n0_ := Aside0.mk (Kd.R_lower ho0 (below_size (by repeat (first | (with_reducible first | exact HB.out | apply below_alloc | apply pw_below_drewN | apply below_drew1) | exact HB.out)))); have n1_ := Aside0.mk (below_step (by repeat (first | (with_reducible first | exact HB.out | apply below_alloc | apply pw_below_drewN | apply below_drew1) | exact HB.out)) hb); clear HB; have HO420 := n0_; have HB := n1_; clear n0_ n1_; (try clear hb); (try clear hb2); (try clear hk); (try clear hi); (try clear ho0)) | ((with_reducible refine gate_callee (f := 21) rfl ?_); refine goesL_ (some 39) rfl rfl Try.func21 (by kernel_rfl) rfl #[.string a0] rfl (by (try simp only [List.map_toArray, List.map_cons, List.map_nil]); first | done | rfl | (simp only [List.length_drop, List.length_take]; rfl)) ?_; (with_reducible refine (lookoutref10_Decode.calls kj3 a0 t421 t422 _ A10.out).mono ?_); rintro e w30 ⟨v423, rfl, ho0, hb⟩; refine ⟨_, rfl, ?_⟩; have n0_ := Aside0.mk (Kd.R_elder' (by (with_reducible repeat (first | apply Kd.R_alloc | apply Kd.R_drewN | apply Kd.R_drew)); exact HO420.out) (Kd.R_base ho0) hb); have n1_ := Aside0.mk (Kd.R_lower (Kd.R_new' ho0 (Kd.R_lt (by (with_reducible repeat (first | apply Kd.R_alloc | apply Kd.R_drewN | apply Kd.R_drew)); exact HO420.out))) (below_size (by repeat (first | (with_reducible first | exact HB.out | apply below_alloc | apply pw_below_drewN | apply below_drew1) | exact HB.out)))); have n2_ := Aside0.mk (below_step (by repeat (first | (with_reducible first | exact HB.out | apply below_alloc | apply pw_below_drewN | apply below_drew1) | exact HB.out)) hb); clear HO420; clear HB; have HO420 := n0_; have HO424 := n1_; have HB := n2_; clear n0_ n1_ n2_; (try clear hb); (try clear hb2); (try clear hk); (try clear hi); (try clear ho0)) | ((with_reducible refine gate_callee (f := 22) rfl ?_); refine goesL_ (some 44) rfl rfl Try.func22 (by kernel_rfl) rfl #[.string a0] rfl (by (try simp only [List.map_toArray, List.map_cons, List.map_nil]); first | done | rfl | (simp only [List.length_drop, List.length_take]; rfl)) ?_; (with_reducible refine (dictcol_Distinct.calls kj3 a0 t425 t426 _ A11.out).mono ?_); rintro e w31 ⟨v427, rfl, ho0, hb⟩; refine ⟨_, rfl, ?_⟩; have n0_ := Aside0.mk (Kd.R_elder' (by (with_reducible repeat (first | apply Kd.R_alloc | apply Kd.R_drewN | apply Kd.R_drew)); exact HO420.out) (Kd.R_base ho0) hb); have n1_ := Aside0.mk (Kd.R_elder' (by (with_reducible repeat (first | apply Kd.R_alloc | apply Kd.R_drewN | apply Kd.R_drew)); exact HO424.out) (Kd.R_base ho0) hb); have n2_ := Aside0.mk (Kd.R_lower (Kd.R_new' (Kd.R_new' ho0 (Kd.R_lt (by (with_reducible repeat (first | apply Kd.R_alloc | apply Kd.R_drewN | apply Kd.R_drew)); exact HO420.out))) (Kd.R_lt (by (with_reducible repeat (first | apply Kd.R_alloc | apply Kd.R_drewN | apply Kd.R_drew)); exact HO424.out))) (below_size (by repeat (first | (with_reducible first | exact HB.out | apply below_alloc | apply pw_below_drewN | apply below_drew1) | exact HB.out)))); have n3_ := Aside0.mk (below_step (by repeat (first | (with_reducible first | exact HB.out | apply below_alloc | apply pw_below_drewN | apply below_drew1) | exact HB.out)) hb); clear HO420; clear HO424; clear HB; have HO420 := n0_; have HO424 := n1_; have HO428 := n2_; have HB := n3_; clear n0_ n1_ n2_ n3_; (try clear hb); (try clear hb2); (try clear hk); (try clear hi); (try clear ho0)) | ((with_reducible refine gate_callee (f := 23) rfl ?_); refine goesL_ (some 49) rfl rfl Try.func23 (by kernel_rfl) rfl #[.string a0] rfl (by (try simp only [List.map_toArray, List.map_cons, List.map_nil]); first | done | rfl | (simp only [List.length_drop, List.length_take]; rfl)) ?_; (with_reducible refine (lookoutref10_Distinct.calls kj3 a0 t429 t430 _ A12.out).mono ?_); rintro e w32 ⟨v431, rfl, ho0, hb⟩; refine ⟨_, rfl, ?_⟩; have n0_ := Aside0.mk (Kd.R_elder' (by (with_reducible repeat (first | apply Kd.R_alloc | apply Kd.R_drewN | apply Kd.R_drew)); exact HO420.out) (Kd.R_base ho0) hb); have n1_ := Aside0.mk (Kd.R_elder' (by (with_reducible repeat (first | apply Kd.R_alloc | apply Kd.R_drewN | apply Kd.R_drew)); exact HO424.out) (Kd.R_base ho0) hb); have n2_ := Aside0.mk (Kd.R_elder' (by (with_reducible repeat (first | apply Kd.R_alloc | apply Kd.R_drewN | apply Kd.R_drew)); exact HO428.out) (Kd.R_base ho0) hb); have n3_ := Aside0.mk (Kd.R_lower (Kd.R_new' (Kd.R_new' (Kd.R_new' ho0 (Kd.R_lt (by (with_reducible repeat (first | apply Kd.R_alloc | apply Kd.R_drewN | apply Kd.R_drew)); exact HO420.out))) (Kd.R_lt (by (with_reducible repeat (first | apply Kd.R_alloc | apply Kd.R_drewN | apply Kd.R_drew)); exact HO424.out))) (Kd.R_lt (by (with_reducible repeat (first | apply Kd.R_alloc | apply Kd.R_drewN | apply Kd.R_drew)); exact HO428.out))) (below_size (by repeat (first | (with_reducible first | exact HB.out | apply below_alloc | apply pw_below_drewN | apply below_drew1) | exact HB.out)))); have n4_ := Aside0.mk (below_step (by repeat (first | (with_reducible first | exact HB.out | apply below_alloc | apply pw_below_drewN | apply below_drew1) | exact HB.out)) hb); clear HO420; clear HO424; clear HO428; clear HB; have HO420 := n0_; have HO424 := n1_; have HO428 := n2_; have HO432 := n3_; have HB := n4_; clear n0_ n1_ n2_ n3_ n4_; (try clear hb); (try clear hb2); (try clear hk); (try clear hi); (try clear ho0)) | ((with_reducible refine gate_callee (f := 24) rfl ?_); refine goesL_ (some 55) rfl rfl Try.func24 (by kernel_rfl) rfl #[.string a0, .string a1] rfl (by (try simp only [List.map_toArray, List.map_cons, List.map_nil]); first | done | rfl | (simp only [List.length_drop, List.length_take]; rfl)) ?_; (with_reducible refine (dictcol_Lookup.calls kj3 a0 a1 t433 t434 _ A13.out).mono ?_); rintro e w33 ⟨v435, rfl, ho0, hb⟩; refine ⟨_, rfl, ?_⟩; have n0_ := Aside0.mk (Kd.R_below (by (with_reducible repeat (first | apply Kd.R_alloc | apply Kd.R_drewN | apply Kd.R_drew)); exact HO420.out) hb); have n1_ := Aside0.mk (Kd.R_below (by (with_reducible repeat (first | apply Kd.R_alloc | apply Kd.R_drewN | apply Kd.R_drew)); exact HO424.out) hb); have n2_ := Aside0.mk (Kd.R_below (by (with_reducible repeat (first | apply Kd.R_alloc | apply Kd.R_drewN | apply Kd.R_drew)); exact HO428.out) hb); have n3_ := Aside0.mk (Kd.R_below (by (with_reducible repeat (first | apply Kd.R_alloc | apply Kd.R_drewN | apply Kd.R_drew)); exact HO432.out) hb); have n4_ := Aside0.mk (Kd.R_lower ho0 (below_size (by repeat (first | (with_reducible first | exact HB.out | apply below_alloc | apply pw_below_drewN | apply below_drew1) | exact HB.out)))); have n5_ := Aside0.mk (below_step (by repeat (first | (with_reducible first | exact HB.out | apply below_alloc | apply pw_below_drewN | apply below_drew1) | exact HB.out)) hb); clear HO420; clear HO424; clear HO428; clear HO432; clear HB; have HO420 := n0_; have HO424 := n1_; have HO428 := n2_; have HO432 := n3_; have HO436 := n4_; have HB := n5_; clear n0_ n1_ n2_ n3_ n4_ n5_; (try clear hb); (try clear hb2); (try clear hk); (try clear hi); (try clear ho0)) | ((with_reducible refine gate_callee (f := 25) rfl ?_); refine goesL_ (some 61) rfl rfl Try.func25 (by kernel_rfl) rfl #[.string a0, .string a1] rfl (by (try simp only [List.map_toArray, List.map_cons, List.map_nil]); first | done | rfl | (simp only [List.length_drop, List.length_take]; rfl)) ?_; (with_reducible refine (lookoutref10_Lookup.calls kj3 a0 a1 t437 t438 _ A14.out).mono ?_); rintro e w34 ⟨v439, rfl, ho0, hb⟩; refine ⟨_, rfl, ?_⟩; have n0_ := Aside0.mk (Kd.R_below (by (with_reducible repeat (first | apply Kd.R_alloc | apply Kd.R_drewN | apply Kd.R_drew)); exact HO420.out) hb); have n1_ := Aside0.mk (Kd.R_below (by (with_reducible repeat (first | apply Kd.R_alloc | apply Kd.R_drewN | apply Kd.R_drew)); exact HO424.out) hb); have n2_ := Aside0.mk (Kd.R_below (by (with_reducible repeat (first | apply Kd.R_alloc | apply Kd.R_drewN | apply Kd.R_drew)); exact HO428.out) hb); have n3_ := Aside0.mk (Kd.R_below (by (with_reducible repeat (first | apply Kd.R_alloc | apply Kd.R_drewN | apply Kd.R_drew)); exact HO432.out) hb); have n4_ := Aside0.mk (Kd.R_elder' (by (with_reducible repeat (first | apply Kd.R_alloc | apply Kd.R_drewN | apply Kd.R_drew)); exact HO436.out) (Kd.R_base ho0) hb); have n5_ := Aside0.mk (Kd.R_lower (Kd.R_new' ho0 (Kd.R_lt (by (with_reducible repeat (first | apply Kd.R_alloc | apply Kd.R_drewN | apply Kd.R_drew)); exact HO436.out))) (below_size (by repeat (first | (with_reducible first | exact HB.out | apply below_alloc | apply pw_below_drewN | apply below_drew1) | exact HB.out)))); have n6_ := Aside0.mk (below_step (by repeat (first | (with_reducible first | exact HB.out | apply below_alloc | apply pw_below_drewN | apply below_drew1) | exact HB.out)) hb); clear HO420; clear HO424; clear HO428; clear HO432; clear HO436; clear HB; have HO420 := n0_; have HO424 := n1_; have HO428 := n2_; have HO432 := n3_; have HO436 := n4_; have HO440 := n5_; have HB := n6_; clear n0_ n1_ n2_ n3_ n4_ n5_ n6_; (try clear hb); (try clear hb2); (try clear hk); (try clear hi); (try clear ho0)) | ((with_reducible refine gate_callee (f := 26) rfl ?_); refine goesL_ (some 67) rfl rfl Try.func26 (by kernel_rfl) rfl #[.string a0, .int .i64 a2] rfl (by (try simp only [List.map_toArray, List.map_cons, List.map_nil]); first | done | rfl | (simp only [List.length_drop, List.length_take]; rfl)) ?_; (with_reducible refine (dictcol_At.calls kj3 a0 a2 t441 t442 _ A15.out).mono ?_); rintro e w35 ⟨rfl, hb⟩; refine ⟨_, rfl, ?_⟩; have n0_ := Aside0.mk (Kd.R_below (by (with_reducible repeat (first | apply Kd.R_alloc | apply Kd.R_drewN | apply Kd.R_drew)); exact HO420.out) hb); have n1_ := Aside0.mk (Kd.R_below (by (with_reducible repeat (first | apply Kd.R_alloc | apply Kd.R_drewN | apply Kd.R_drew)); exact HO424.out) hb); have n2_ := Aside0.mk (Kd.R_below (by (with_reducible repeat (first | apply Kd.R_alloc | apply Kd.R_drewN | apply Kd.R_drew)); exact HO428.out) hb); have n3_ := Aside0.mk (Kd.R_below (by (with_reducible repeat (first | apply Kd.R_alloc | apply Kd.R_drewN | apply Kd.R_drew)); exact HO432.out) hb); have n4_ := Aside0.mk (Kd.R_below (by (with_reducible repeat (first | apply Kd.R_alloc | apply Kd.R_drewN | apply Kd.R_drew)); exact HO436.out) hb); have n5_ := Aside0.mk (Kd.R_below (by (with_reducible repeat (first | apply Kd.R_alloc | apply Kd.R_drewN | apply Kd.R_drew)); exact HO440.out) hb); have n6_ := Aside0.mk (below_step (by repeat (first | (with_reducible first | exact HB.out | apply below_alloc | apply pw_below_drewN | apply below_drew1) | exact HB.out)) hb); clear HO420; clear HO424; clear HO428; clear HO432; clear HO436; clear HO440; clear HB; have HO420 := n0_; have HO424 := n1_; have HO428 := n2_; have HO432 := n3_; have HO436 := n4_; have HO440 := n5_; have HB := n6_; clear n0_ n1_ n2_ n3_ n4_ n5_ n6_; (try clear hb); (try clear hb2); (try clear hk); (try clear hi)) | ((with_reducible refine gate_callee (f := 27) rfl ?_); refine goesL_ (some 73) rfl rfl Try.func27 (by kernel_rfl) rfl #[.string a0, .int .i64 a2] rfl (by (try simp only [List.map_toArray, List.map_cons, List.map_nil]); first | done | rfl | (simp only [List.length_drop, List.length_take]; rfl)) ?_; (with_reducible refine (lookoutref10_At.calls kj3 a0 a2 t443 t444 _ A16.out).mono ?_); rintro e w36 ⟨rfl, hb⟩; refine ⟨_, rfl, ?_⟩; have n0_ := Aside0.mk (Kd.R_below (by (with_reducible repeat (first | apply Kd.R_alloc | apply Kd.R_drewN | apply Kd.R_drew)); exact HO420.out) hb); have n1_ := Aside0.mk (Kd.R_below (by (with_reducible repeat (first | apply Kd.R_alloc | apply Kd.R_drewN | apply Kd.R_drew)); exact HO424.out) hb); have n2_ := Aside0.mk (Kd.R_below (by (with_reducible repeat (first | apply Kd.R_alloc | apply Kd.R_drewN | apply Kd.R_drew)); exact HO428.out) hb); have n3_ := Aside0.mk (Kd.R_below (by (with_reducible repeat (first | apply Kd.R_alloc | apply Kd.R_drewN | apply Kd.R_drew)); exact HO432.out) hb); have n4_ := Aside0.mk (Kd.R_below (by (with_reducible repeat (first | apply Kd.R_alloc | apply Kd.R_drewN | apply Kd.R_drew)); exact HO436.out) hb); have n5_ := Aside0.mk (Kd.R_below (by (with_reducible repeat (first | apply Kd.R_alloc | apply Kd.R_drewN | apply Kd.R_drew)); exact HO440.out) hb); have n6_ := Aside0.mk (below_step (by repeat (first | (with_reducible first | exact HB.out | apply below_alloc | apply pw_below_drewN | apply below_drew1) | exact HB.out)) hb); clear HO420; clear HO424; clear HO428; clear HO432; clear HO436; clear HO440; clear HB; have HO420 := n0_; have HO424 := n1_; have HO428 := n2_; have HO432 := n3_; have HO436 := n4_; have HO440 := n5_; have HB := n6_; clear n0_ n1_ n2_ n3_ n4_ n5_ n6_; (try clear hb); (try clear hb2); (try clear hk); (try clear hi); obtain ⟨Ao37, co37, eo37⟩ := Kd.R_slice HO420.out; subst eo37; obtain ⟨Ao38, co38, eo38⟩ := Kd.R_slice HO424.out; subst eo38) | ((with_reducible refine gate_callee (f := 19) rfl ?_); refine goesL_ (some 78) rfl rfl Try.func19 (by kernel_rfl) rfl #[.slice Ao37 t417.length co37, .slice Ao38 t421.length co38] rfl (by (try simp only [List.map_toArray, List.map_cons, List.map_nil]); first | done | rfl | (simp only [List.length_drop, List.length_take]; rfl)) ?_; (with_reducible refine (lookoutref10_Same.calls kj3 _ _ t417 _ _ t421 true _ ?side1 ?side2 ?side3 ?side4 A17.out).mono ?_); (case side1 => repeat (first | exact (Kd.R_reads' HO420.out).2.2 | (with_reducible refine Kd.C_alloc ?_ _) | (with_reducible refine Kd.C_drewN ?_ _) | (with_reducible refine Kd.C_drew ?_))); (case side2 => exact (Kd.R_reads' HO420.out).2.1); (case side3 => repeat (first | exact (Kd.R_reads' HO424.out).2.2 | (with_reducible refine Kd.C_alloc ?_ _) | (with_reducible refine Kd.C_drewN ?_ _) | (with_reducible refine Kd.C_drew ?_))); (case side4 => exact (Kd.R_reads' HO424.out).2.1); rintro e w' ⟨rfl, ⟨nd, rfl⟩⟩; refine ⟨_, rfl, ?_⟩; obtain ⟨Ao39, co39, eo39⟩ := Kd.R_slice HO428.out; subst eo39; obtain ⟨Ao40, co40, eo40⟩ := Kd.R_slice HO432.out; subst eo40) | (go_at_call 19; (with_reducible refine (lookoutref10_Same.calls kj3 _ _ t425 _ _ t429 true _ ?side1 ?side2 ?side3 ?side4 A20.out).mono ?_); (case side1 => repeat (first | exact (Kd.R_reads' HO428.out).2.2 | (with_reducible refine Kd.C_alloc ?_ _) | (with_reducible refine Kd.C_drewN ?_ _) | (with_reducible refine Kd.C_drew ?_))); (case side2 => exact (Kd.R_reads' HO428.out).2.1); (case side3 => repeat (first | exact (Kd.R_reads' HO432.out).2.2 | (with_reducible refine Kd.C_alloc ?_ _) | (with_reducible refine Kd.C_drewN ?_ _) | (with_reducible refine Kd.C_drew ?_))); (case side4 => exact (Kd.R_reads' HO432.out).2.1); rintro e w' ⟨rfl, ⟨nd, rfl⟩⟩; obtain ⟨Ao41, co41, eo41⟩ := Kd.R_slice HO436.out; subst eo41; obtain ⟨Ao42, co42, eo42⟩ := Kd.R_slice HO440.out; subst eo42) | (go_at_call 28; (with_reducible refine (lookoutref01_Same.calls kj3 _ _ t433 _ _ t437 true _ ?side1 ?side2 ?side3 ?side4 A23.out).mono ?_); (case side1 => repeat (first | exact (Kd.R_reads' HO436.out).2.2 | (with_reducible refine Kd.C_alloc ?_ _) | (with_reducible refine Kd.C_drewN ?_ _) | (with_reducible refine Kd.C_drew ?_))); (case side2 => exact (Kd.R_reads' HO436.out).2.1); (case side3 => repeat (first | exact (Kd.R_reads' HO440.out).2.2 | (with_reducible refine Kd.C_alloc ?_ _) | (with_reducible refine Kd.C_drewN ?_ _) | (with_reducible refine Kd.C_drew ?_))); (case side4 => exact (Kd.R_reads' HO440.out).2.1); rintro e w' ⟨rfl, ⟨nd, rfl⟩⟩) | (go_at_call 12; (with_reducible refine (lookoutlaw10_awake.calls kj3  t448 _ A28.out).mono ?_); rintro e w43 ⟨rfl, hb⟩; have n0_ := Aside0.mk (Kd.R_below (by (with_reducible repeat (first | apply Kd.R_alloc | apply Kd.R_drewN | apply Kd.R_drew)); exact HO420.out) hb); have n1_ := Aside0.mk (Kd.R_below (by (with_reducible repeat (first | apply Kd.R_alloc | apply Kd.R_drewN | apply Kd.R_drew)); exact HO424.out) hb); have n2_ := Aside0.mk (Kd.R_below (by (with_reducible repeat (first | apply Kd.R_alloc | apply Kd.R_drewN | apply Kd.R_drew)); exact HO428.out) hb); have n3_ := Aside0.mk (Kd.R_below (by (with_reducible repeat (first | apply Kd.R_alloc | apply Kd.R_drewN | apply Kd.R_drew)); exact HO432.out) hb); have n4_ := Aside0.mk (Kd.R_below (by (with_reducible repeat (first | apply Kd.R_alloc | apply Kd.R_drewN | apply Kd.R_drew)); exact HO436.out) hb); have n5_ := Aside0.mk (Kd.R_below (by (with_reducible repeat (first | apply Kd.R_alloc | apply Kd.R_drewN | apply Kd.R_drew)); exact HO440.out) hb); have n6_ := Aside0.mk (below_step (by repeat (first | (with_reducible first | exact HB.out | apply below_alloc | apply pw_below_drewN | apply below_drew1) | exact HB.out)) hb); clear HO420; clear HO424; clear HO428; clear HO432; clear HO436; clear HO440; clear HB; have HO420 := n0_; have HO424 := n1_; have HO428 := n2_; have HO432 := n3_; have HO436 := n4_; have HO440 := n5_; have HB := n6_; clear n0_ n1_ n2_ n3_ n4_ n5_ n6_; (try clear hb); (try clear hb2); (try clear hk); (try clear hi)))
                        go_ret
                        exact ⟨by first | rfl | (simp [errW_none, errW_some] <;> rfl) | (simp [*, errW_none, errW_some] <;> rfl), by repeat (first | (with_reducible first | exact HB.out | apply below_alloc | apply pw_below_drewN | apply below_drew1) | exact HB.out)⟩
                      · rw [if_neg c27] at H
                        exact absurd H (by simp)
                    · rw [if_neg c26] at H
                      exact absurd H (by simp)
                  · rw [if_neg c25] at H
                    exact absurd H (by simp)
                · replace c24 := Bool.eq_false_iff.mpr c24
                  subst c24
                  have H1 : (none) = some r := by rw [if_neg (show ¬ (false = true) by decide)] at H; exact H
                  clear H
                  have H := H1
                  clear H1
                  exact absurd H (by simp)
              · rw [if_neg c22] at H
                exact absurd H (by simp)
            · replace c21 := Bool.eq_false_iff.mpr c21
              subst c21
              have H1 : (none) = some r := by rw [if_neg (show ¬ (false = true) by decide)] at H; exact H
              clear H
              have H := H1
              clear H1
              exact absurd H (by simp)
          · rw [if_neg c19] at H
            exact absurd H (by simp)
        · replace c18 := Bool.eq_false_iff.mpr c18
          subst c18
          have H1 : (none) = some r := by rw [if_neg (show ¬ (false = true) by decide)] at H; exact H
          clear H
          have H := H1
          clear H1
          exact absurd H (by simp)

/-- THE ONE PURE STATEMENT of lookoutlaw10_DictcolDecode. -/
def lookoutlaw10_DictcolDecode.Pure : Prop := ∀ (a0 : ByteArray) (a1 : ByteArray) (a2 : Int), a0.size ≤ 140737488351232 → a1.size ≤ 140737488351232 → (Lit.int .i64 a2).wf = true → ∃ k, lookoutlaw10_DictcolDecode.f k a0 a1 a2 = some true

end Go.Proofs.Ytfklecicddpcjaa.P
