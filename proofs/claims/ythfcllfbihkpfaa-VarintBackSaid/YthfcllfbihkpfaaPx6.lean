/- Printed by a program of this session: functions of the law's Go code as Lean functions, and that the Go code computes them. No condition beyond those in the statements. -/
import Derived.Test.YthfcllfbihkpfaaPx0
import Derived.Test.YthfcllfbihkpfaaPx1
import Derived.Test.YthfcllfbihkpfaaPx2
import Derived.Test.YthfcllfbihkpfaaPx4
import Derived.Test.YthfcllfbihkpfaaPx5
namespace Go.Proofs.Ythfcllfbihkpfaa.P
open Go.RowKit Go.Proofs.YthfcllfbihkpfaaW.PrintWords Go.Proofs.YthfcllfbihkpfaaW.PrintLast Go.Proofs.YthfcllfbihkpfaaW.PrintMore Go.Proofs.Ythfcllfbihkpfaa.Hand
attribute [local go_sem] max2_int min2_int max_two min_two max_three min_three max_four min_four   -- for this text's walks alone
set_option linter.unusedVariables false
set_option linter.unusedSimpArgs false

/-! ### lookoutlaw01_VarintBack: function 9 -/
mutual
def lookoutlaw01_VarintBack.j0 : Nat → Int → ByteArray → Bool → Option (Bool)
  | 0, _, _, _ => none
  | k + 1, x0, x1, x20 => if x20 = true then ((lookoutlaw01_awake.f k).bind fun t293 => (some t293)) else ((varint_AppendSigned.f k (⟨#[]⟩ : ByteArray) x0).bind fun bt294 => (if bt294.1.size + x1.size ≤ 9223372036854775807 then ((varint_ReadSigned.f (bt294.1 ++ x1)).bind fun bt296 => (if bt294.2 = 0 then (if bt296.2.2 = 0 then (if bt296.1 = x0 then (lookoutlaw01_VarintBack.j1 k x0 x1 (bt296.2.1 != (bt294.1.size : Int))) else (lookoutlaw01_VarintBack.j1 k x0 x1 true)) else (lookoutlaw01_VarintBack.j1 k x0 x1 true)) else (lookoutlaw01_VarintBack.j1 k x0 x1 true))) else (none)))
def lookoutlaw01_VarintBack.j1 : Nat → Int → ByteArray → Bool → Option (Bool)
  | 0, _, _, _ => none
  | k + 1, x0, x1, x51 => if x51 = true then (some false) else (if x0 < 0 then ((lookoutlaw01_awake.f k).bind fun t299 => (some t299)) else ((varint_Append.f k x1 x0).bind fun bt300 => (if bt300.2 = 0 then ((strings_HasPrefix.f bt300.1 x1).bind fun t302 => (lookoutlaw01_VarintBack.j2 k x0 x1 bt300.1 (!t302))) else (lookoutlaw01_VarintBack.j2 k x0 x1 bt300.1 true))))
def lookoutlaw01_VarintBack.j2 : Nat → Int → ByteArray → ByteArray → Bool → Option (Bool)
  | 0, _, _, _, _ => none
  | k + 1, x0, x1, x5, x68 => if x68 = true then (some false) else (if 0 ≤ (x1.size : Int) then (if (x1.size : Int) ≤ (x5.size : Int) then (if (x5.extract ((x1.size : Int) : Int).toNat x5.size).size + x1.size ≤ 9223372036854775807 then ((varint_Read.f ((x5.extract ((x1.size : Int) : Int).toNat x5.size) ++ x1)).bind fun bt303 => (if bt303.2.2 = 0 then (if bt303.1 = x0 then (if bt303.2.1 = (wrap64 ((x5.size : Int) - (x1.size : Int))) then ((varint_Size.f k x0).bind fun t306 => (if bt303.2.1 = t306 then ((lookoutlaw01_awake.f k).bind fun t307 => (some t307)) else (some false))) else (some false)) else (some false)) else (some false))) else (none)) else (none)) else (none))
end
def lookoutlaw01_VarintBack.f (k : Nat) (a0 : Int) (a1 : ByteArray) : Option (Bool) := if a0 < (-1152921504606846976) then (lookoutlaw01_VarintBack.j0 k a0 a1 true) else (if a0 > 1152921504606846976 then (lookoutlaw01_VarintBack.j0 k a0 a1 true) else (lookoutlaw01_VarintBack.j0 k a0 a1 (decide ((a1.size : Int) > 50))))
theorem lookoutlaw01_VarintBack.mono_l : ∀ k, (∀ y0 y1 y2, LeO (lookoutlaw01_VarintBack.j0 k y0 y1 y2) (lookoutlaw01_VarintBack.j0 (k + 1) y0 y1 y2)) ∧ (∀ y0 y1 y2, LeO (lookoutlaw01_VarintBack.j1 k y0 y1 y2) (lookoutlaw01_VarintBack.j1 (k + 1) y0 y1 y2)) ∧ (∀ y0 y1 y2 y3, LeO (lookoutlaw01_VarintBack.j2 k y0 y1 y2 y3) (lookoutlaw01_VarintBack.j2 (k + 1) y0 y1 y2 y3))
  | 0 => ⟨fun _ _ _ r h => by simp [lookoutlaw01_VarintBack.j0] at h, fun _ _ _ r h => by simp [lookoutlaw01_VarintBack.j1] at h, fun _ _ _ _ r h => by simp [lookoutlaw01_VarintBack.j2] at h⟩
  | k + 1 => by
    obtain ⟨ih0, ih1, ih2⟩ := lookoutlaw01_VarintBack.mono_l k
    refine ⟨?_, ?_, ?_⟩
    · intro y0 y1 y2
      unfold lookoutlaw01_VarintBack.j0
      repeat' first
      | (with_reducible exact ih0 _ _ _)
      | (with_reducible exact ih1 _ _ _)
      | (with_reducible exact ih2 _ _ _ _)
      | (with_reducible exact lookoutlaw01_awake.mono _)
      | (with_reducible exact varint_Append.mono _ _ _)
      | (with_reducible exact varint_AppendSigned.mono _ _ _)
      | (with_reducible exact varint_Size.mono _ _)
      | (with_reducible exact LeO.refl _)
      | (with_reducible exact LeO.none _)
      | (with_reducible refine LeO.ite ?_ ?_)
      | (with_reducible refine LeO.bind ?_ (fun _ => ?_))
      | exact ih0 _ _ _
      | exact ih1 _ _ _
      | exact ih2 _ _ _ _
      | exact lookoutlaw01_awake.mono _
      | exact varint_Append.mono _ _ _
      | exact varint_AppendSigned.mono _ _ _
      | exact varint_Size.mono _ _
      | exact LeO.none _
      | refine LeO.ite ?_ ?_
      | refine LeO.bind ?_ (fun _ => ?_)
    · intro y0 y1 y2
      unfold lookoutlaw01_VarintBack.j1
      repeat' first
      | (with_reducible exact ih0 _ _ _)
      | (with_reducible exact ih1 _ _ _)
      | (with_reducible exact ih2 _ _ _ _)
      | (with_reducible exact lookoutlaw01_awake.mono _)
      | (with_reducible exact varint_Append.mono _ _ _)
      | (with_reducible exact varint_AppendSigned.mono _ _ _)
      | (with_reducible exact varint_Size.mono _ _)
      | (with_reducible exact LeO.refl _)
      | (with_reducible exact LeO.none _)
      | (with_reducible refine LeO.ite ?_ ?_)
      | (with_reducible refine LeO.bind ?_ (fun _ => ?_))
      | exact ih0 _ _ _
      | exact ih1 _ _ _
      | exact ih2 _ _ _ _
      | exact lookoutlaw01_awake.mono _
      | exact varint_Append.mono _ _ _
      | exact varint_AppendSigned.mono _ _ _
      | exact varint_Size.mono _ _
      | exact LeO.none _
      | refine LeO.ite ?_ ?_
      | refine LeO.bind ?_ (fun _ => ?_)
    · intro y0 y1 y2 y3
      unfold lookoutlaw01_VarintBack.j2
      repeat' first
      | (with_reducible exact ih0 _ _ _)
      | (with_reducible exact ih1 _ _ _)
      | (with_reducible exact ih2 _ _ _ _)
      | (with_reducible exact lookoutlaw01_awake.mono _)
      | (with_reducible exact varint_Append.mono _ _ _)
      | (with_reducible exact varint_AppendSigned.mono _ _ _)
      | (with_reducible exact varint_Size.mono _ _)
      | (with_reducible exact LeO.refl _)
      | (with_reducible exact LeO.none _)
      | (with_reducible refine LeO.ite ?_ ?_)
      | (with_reducible refine LeO.bind ?_ (fun _ => ?_))
      | exact ih0 _ _ _
      | exact ih1 _ _ _
      | exact ih2 _ _ _ _
      | exact lookoutlaw01_awake.mono _
      | exact varint_Append.mono _ _ _
      | exact varint_AppendSigned.mono _ _ _
      | exact varint_Size.mono _ _
      | exact LeO.none _
      | refine LeO.ite ?_ ?_
      | refine LeO.bind ?_ (fun _ => ?_)
theorem lookoutlaw01_VarintBack.mono : ∀ a0 a1 k, LeO (lookoutlaw01_VarintBack.f k a0 a1) (lookoutlaw01_VarintBack.f (k + 1) a0 a1) := by
  intro a0 a1 k
  obtain ⟨ih0, ih1, ih2⟩ := lookoutlaw01_VarintBack.mono_l k
  unfold lookoutlaw01_VarintBack.f
  repeat' first
      | (with_reducible exact ih0 _ _ _)
      | (with_reducible exact ih1 _ _ _)
      | (with_reducible exact ih2 _ _ _ _)
      | (with_reducible exact lookoutlaw01_awake.mono _)
      | (with_reducible exact varint_Append.mono _ _ _)
      | (with_reducible exact varint_AppendSigned.mono _ _ _)
      | (with_reducible exact varint_Size.mono _ _)
      | (with_reducible exact LeO.refl _)
      | (with_reducible exact LeO.none _)
      | (with_reducible refine LeO.ite ?_ ?_)
      | (with_reducible refine LeO.bind ?_ (fun _ => ?_))
      | exact ih0 _ _ _
      | exact ih1 _ _ _
      | exact ih2 _ _ _ _
      | exact lookoutlaw01_awake.mono _
      | exact varint_Append.mono _ _ _
      | exact varint_AppendSigned.mono _ _ _
      | exact varint_Size.mono _ _
      | exact LeO.none _
      | refine LeO.ite ?_ ?_
      | refine LeO.bind ?_ (fun _ => ?_)
set_option maxHeartbeats 8000000 in
set_option maxRecDepth 100000 in
theorem lookoutlaw01_VarintBack.calls (k : Nat) (a0 : Int) (a1 : ByteArray) (r : Bool) (w : World) (h : lookoutlaw01_VarintBack.f k a0 a1 = some r) :
    Calls Try.prog 9 #[.int .i64 a0, .string a1] w fun e w' => e = .returned (.bool r) ∧ Below w.heap.size w w' := by
  have HB := Aside0.mk (Below.refl w.heap.size w)
  have H : (if a0 < (-1152921504606846976) then (lookoutlaw01_VarintBack.j0 k a0 a1 true) else (if a0 > 1152921504606846976 then (lookoutlaw01_VarintBack.j0 k a0 a1 true) else (lookoutlaw01_VarintBack.j0 k a0 a1 (decide ((a1.size : Int) > 50))))) = some r := h
  clear h
  have HC3 := Aside0.mk H
  clear H
  go_enter Try.func9, Try.ntmps9
  go_upto_region 1 with (fail)
  go_cut [20] (fun v20 wc => ∃ (kq : Nat) (x20_2 : Bool), v20 = .bool x20_2 ∧ Aside0 (lookoutlaw01_VarintBack.j0 kq a0 a1 x20_2 = some r) ∧ Aside0 (kq ≤ k) ∧ Aside0 (Below w.heap.size w wc))
  case first =>
    have H := HC3.out
    clear HC3
    by_cases c4 : a0 < (-1152921504606846976)
    · rw [if_pos c4] at H
      have c4b0 : decide (a0 < (-1152921504606846976)) = true := decide_eq_true c4
      clear c4
      (first | rw [c4b0] | (simp only [i64_w, i32_w]; rw [c4b0]) | skip)
      have H' := Aside0.mk H
      clear H
      go_wp2
      go_meet
      case rel => exact ⟨_, (true), (by first | rfl | (simp; done) | (simp [*]; done)), H', ⟨by first | omega | exact Nat.le_refl _⟩, ⟨by repeat (first | (with_reducible first | exact HB.out | apply below_alloc | apply pw_below_drewN | apply below_drew1) | exact HB.out)⟩⟩
    · rw [if_neg c4] at H
      have c4b0 : decide (a0 < (-1152921504606846976)) = false := decide_eq_false c4
      clear c4
      (first | rw [c4b0] | (simp only [i64_w, i32_w]; rw [c4b0]) | skip)
      by_cases c5 : a0 > 1152921504606846976
      · rw [if_pos c5] at H
        have c5b0 : decide (1152921504606846976 < a0) = true := decide_eq_true c5
        clear c5
        have H' := Aside0.mk H
        clear H
        go_wp2
        go_meet
        case rel => exact ⟨_, (true), (by first | rfl | (simp; done) | (simp [*]; done)), H', ⟨by first | omega | exact Nat.le_refl _⟩, ⟨by repeat (first | (with_reducible first | exact HB.out | apply below_alloc | apply pw_below_drewN | apply below_drew1) | exact HB.out)⟩⟩
      · rw [if_neg c5] at H
        have c5b0 : decide (1152921504606846976 < a0) = false := decide_eq_false c5
        clear c5
        have H' := Aside0.mk H
        clear H
        go_wp2
        go_meet
        case rel => exact ⟨_, (decide ((a1.size : Int) > 50)), (by first | rfl | (simp; done) | (simp [*]; done)), H', ⟨by first | omega | exact Nat.le_refl _⟩, ⟨by repeat (first | (with_reducible first | exact HB.out | apply below_alloc | apply pw_below_drewN | apply below_drew1) | exact HB.out)⟩⟩
  case rest =>
    clear HC3
    try clear p2
    try clear c4
    try clear c4b0
    try clear c5
    try clear c5b0
    obtain ⟨kq, x20_2, rfl, HA, HJ2, HB⟩ := hcut
    cases kq with
    | zero => exact absurd HA.out (by simp [lookoutlaw01_VarintBack.j0])
    | succ kj2 =>
      have H := HA.out
      clear HA
      simp only [lookoutlaw01_VarintBack.j0] at H
      by_cases c6 : x20_2 = true
      · subst c6
        have H1 : ((lookoutlaw01_awake.f kj2).bind fun t293 => (some t293)) = some r := by rw [if_pos rfl] at H; exact H
        clear H
        have H := H1
        clear H1
        replace H := Option.bind_eq_some_iff.mp H
        obtain ⟨t293, A70, H⟩ := H
        replace H : (some t293) = some r := H
        have A7 := Aside0.mk A70
        clear A70
        obtain rfl := Option.some.inj H
        go_wp2_with (first | ((with_reducible refine gate_callee (f := 10) rfl ?_); refine goesL_ (some 21) rfl rfl Try.func10 (by kernel_rfl) rfl #[] rfl (by (try simp only [List.map_toArray, List.map_cons, List.map_nil]); first | done | rfl | (simp only [List.length_drop, List.length_take]; rfl)) ?_; (with_reducible refine (lookoutlaw01_awake.calls kj2  t293 _ A7.out).mono ?_); rintro e w8 ⟨rfl, hb⟩; refine ⟨_, rfl, ?_⟩; have n0_ := Aside0.mk (below_step (by repeat (first | (with_reducible first | exact HB.out | apply below_alloc | apply pw_below_drewN | apply below_drew1) | exact HB.out)) hb); clear HB; have HB := n0_; clear n0_; (try clear hb); (try clear hb2); (try clear hk); (try clear hi)))
        go_ret
        exact ⟨by first | rfl | (simp [errW_none, errW_some] <;> rfl) | (simp [*, errW_none, errW_some] <;> rfl), by repeat (first | (with_reducible first | exact HB.out | apply below_alloc | apply pw_below_drewN | apply below_drew1) | exact HB.out)⟩
      · replace c6 := Bool.eq_false_iff.mpr c6
        subst c6
        have H1 : ((varint_AppendSigned.f kj2 (⟨#[]⟩ : ByteArray) a0).bind fun bt294 => (if bt294.1.size + a1.size ≤ 9223372036854775807 then ((varint_ReadSigned.f (bt294.1 ++ a1)).bind fun bt296 => (if bt294.2 = 0 then (if bt296.2.2 = 0 then (if bt296.1 = a0 then (lookoutlaw01_VarintBack.j1 kj2 a0 a1 (bt296.2.1 != (bt294.1.size : Int))) else (lookoutlaw01_VarintBack.j1 kj2 a0 a1 true)) else (lookoutlaw01_VarintBack.j1 kj2 a0 a1 true)) else (lookoutlaw01_VarintBack.j1 kj2 a0 a1 true))) else (none))) = some r := by rw [if_neg (show ¬ (false = true) by decide)] at H; exact H
        clear H
        have H := H1
        clear H1
        replace H := Option.bind_eq_some_iff.mp H
        obtain ⟨⟨t294, t295⟩, A90, H⟩ := H
        replace H : (if t294.size + a1.size ≤ 9223372036854775807 then ((varint_ReadSigned.f (t294 ++ a1)).bind fun bt296 => (if t295 = 0 then (if bt296.2.2 = 0 then (if bt296.1 = a0 then (lookoutlaw01_VarintBack.j1 kj2 a0 a1 (bt296.2.1 != (t294.size : Int))) else (lookoutlaw01_VarintBack.j1 kj2 a0 a1 true)) else (lookoutlaw01_VarintBack.j1 kj2 a0 a1 true)) else (lookoutlaw01_VarintBack.j1 kj2 a0 a1 true))) else (none)) = some r := H
        have A9 := Aside0.mk A90
        clear A90
        by_cases c10 : t294.size + a1.size ≤ 9223372036854775807
        · rw [if_pos c10] at H
          have c10b0 := eq_true c10
          have c10b1 : decide (t294.size + a1.size ≤ 9223372036854775807) = true := decide_eq_true c10
          try have c10b2 : (9223372036854775807 < t294.size + a1.size) = False := eq_false (Nat.not_lt.2 c10)
          replace H := Option.bind_eq_some_iff.mp H
          obtain ⟨⟨t296, t297, t298⟩, A110, H⟩ := H
          replace H : (if t295 = 0 then (if t298 = 0 then (if t296 = a0 then (lookoutlaw01_VarintBack.j1 kj2 a0 a1 (t297 != (t294.size : Int))) else (lookoutlaw01_VarintBack.j1 kj2 a0 a1 true)) else (lookoutlaw01_VarintBack.j1 kj2 a0 a1 true)) else (lookoutlaw01_VarintBack.j1 kj2 a0 a1 true)) = some r := H
          have A11 := Aside0.mk A110
          clear A110
          have HC12 := Aside0.mk H
          clear H
          go_upto_region 5 with (first | ((with_reducible refine gate_callee (f := 21) rfl ?_); refine goesL_ (some 24) rfl rfl Try.func21 (by kernel_rfl) rfl #[.string (⟨#[]⟩ : ByteArray), .int .i64 a0] rfl (by (try simp only [List.map_toArray, List.map_cons, List.map_nil]); first | done | rfl | (simp only [List.length_drop, List.length_take]; rfl)) ?_; (with_reducible refine (varint_AppendSigned.calls kj2 (⟨#[]⟩ : ByteArray) a0 t294 t295 _ A9.out).mono ?_); rintro e w13 ⟨rfl, hb⟩; refine ⟨_, rfl, ?_⟩; have n0_ := Aside0.mk (below_step (by repeat (first | (with_reducible first | exact HB.out | apply below_alloc | apply pw_below_drewN | apply below_drew1) | exact HB.out)) hb); clear HB; have HB := n0_; clear n0_; (try clear hb); (try clear hb2); (try clear hk); (try clear hi)) | ((with_reducible refine gate_callee (f := 13) rfl ?_); refine goesL_ (some 31) rfl rfl Try.func13 (by kernel_rfl) rfl #[.string (t294 ++ a1)] rfl (by (try simp only [List.map_toArray, List.map_cons, List.map_nil]); first | done | rfl | (simp only [List.length_drop, List.length_take]; rfl)) ?_; (with_reducible refine (varint_ReadSigned.calls (t294 ++ a1) t296 t297 t298 _ A11.out).mono ?_); rintro e w14 ⟨rfl, hb⟩; refine ⟨_, rfl, ?_⟩; have n0_ := Aside0.mk (below_step (by repeat (first | (with_reducible first | exact HB.out | apply below_alloc | apply pw_below_drewN | apply below_drew1) | exact HB.out)) hb); clear HB; have HB := n0_; clear n0_; (try clear hb); (try clear hb2); (try clear hk); (try clear hi)))
          (try simp only [Act.put, List.setIfInBounds_toArray, List.set_cons_zero, List.set_cons_succ])
          go_cut [51] (fun v51 wc => ∃ (kq : Nat) (x51_11 : Bool), v51 = .bool x51_11 ∧ Aside0 (lookoutlaw01_VarintBack.j1 kq a0 a1 x51_11 = some r) ∧ Aside0 (kq ≤ kj2) ∧ Aside0 (Below w.heap.size w wc))
          case first =>
            have H := HC12.out
            clear HC12
            by_cases c15 : t295 = 0
            · rw [if_pos c15] at H
              have c15b0 : (t295 == 0) = true := beq_iff_eq.mpr c15
              have c15b1 : (t295 != 0) = false := bne_eq_false_iff_eq.mpr c15
              clear c15
              (first | rw [c15b0] | (simp only [i64_w, i32_w]; rw [c15b0]) | skip)
              by_cases c16 : t298 = 0
              · rw [if_pos c16] at H
                have c16b0 : (t298 == 0) = true := beq_iff_eq.mpr c16
                have c16b1 : (t298 != 0) = false := bne_eq_false_iff_eq.mpr c16
                clear c16
                by_cases c17 : t296 = a0
                · rw [if_pos c17] at H
                  have c17b0 : (t296 == a0) = true := beq_iff_eq.mpr c17
                  have c17b1 : (t296 != a0) = false := bne_eq_false_iff_eq.mpr c17
                  clear c17
                  have H' := Aside0.mk H
                  clear H
                  go_wp2
                  go_meet
                  case rel => exact ⟨_, ((t297 != (t294.size : Int))), (by first | rfl | (simp; done) | (simp [*]; done)), H', ⟨by have := HJ2.out; first | omega | exact Nat.le_refl _⟩, ⟨by repeat (first | (with_reducible first | exact HB.out | apply below_alloc | apply pw_below_drewN | apply below_drew1) | exact HB.out)⟩⟩
                · rw [if_neg c17] at H
                  have c17b0 : (t296 == a0) = false := beq_eq_false_iff_ne.mpr c17
                  have c17b1 : (t296 != a0) = true := bne_iff_ne.mpr c17
                  have H' := Aside0.mk H
                  clear H
                  go_wp2
                  go_meet
                  case rel => exact ⟨_, (true), (by first | rfl | (simp; done) | (simp [*]; done)), H', ⟨by have := HJ2.out; first | omega | exact Nat.le_refl _⟩, ⟨by repeat (first | (with_reducible first | exact HB.out | apply below_alloc | apply pw_below_drewN | apply below_drew1) | exact HB.out)⟩⟩
              · rw [if_neg c16] at H
                have c16b0 : (t298 == 0) = false := beq_eq_false_iff_ne.mpr c16
                have c16b1 : (t298 != 0) = true := bne_iff_ne.mpr c16
                have H' := Aside0.mk H
                clear H
                go_wp2
                go_meet
                case rel => exact ⟨_, (true), (by first | rfl | (simp; done) | (simp [*]; done)), H', ⟨by have := HJ2.out; first | omega | exact Nat.le_refl _⟩, ⟨by repeat (first | (with_reducible first | exact HB.out | apply below_alloc | apply pw_below_drewN | apply below_drew1) | exact HB.out)⟩⟩
            · rw [if_neg c15] at H
              have c15b0 : (t295 == 0) = false := beq_eq_false_iff_ne.mpr c15
              have c15b1 : (t295 != 0) = true := bne_iff_ne.mpr c15
              (first | rw [c15b0] | (simp only [i64_w, i32_w]; rw [c15b0]) | skip)
              have H' := Aside0.mk H
              clear H
              go_wp2
              go_meet
              case rel => exact ⟨_, (true), (by first | rfl | (simp; done) | (simp [*]; done)), H', ⟨by have := HJ2.out; first | omega | exact Nat.le_refl _⟩, ⟨by repeat (first | (with_reducible first | exact HB.out | apply below_alloc | apply pw_below_drewN | apply below_drew1) | exact HB.out)⟩⟩
          case rest =>
            clear HC12
            try clear c1
            try clear c2
            try clear p2
            try clear c4
            try clear c4b0
            try clear c5
            try clear c5b0
            try clear c6
            try clear c9
            try clear c10
            try clear c10b0
            try clear c10b1
            try clear c10b2
            try clear c13
            try clear c15
            try clear c15b0
            try clear c15b1
            try clear c16
            try clear c16b0
            try clear c16b1
            try clear c17
            try clear c17b0
            try clear c17b1
            try clear p2
            obtain ⟨kq, x51_11, rfl, HA, HJ11, HB⟩ := hcut
            cases kq with
            | zero => exact absurd HA.out (by simp [lookoutlaw01_VarintBack.j1])
            | succ kj11 =>
              have H := HA.out
              clear HA
              simp only [lookoutlaw01_VarintBack.j1] at H
              by_cases c18 : x51_11 = true
              · subst c18
                have H1 : (some false) = some r := by rw [if_pos rfl] at H; exact H
                clear H
                have H := H1
                clear H1
                obtain rfl := Option.some.inj H
                go_wp2
                go_ret
                exact ⟨by first | rfl | (simp [errW_none, errW_some] <;> rfl) | (simp [*, errW_none, errW_some] <;> rfl), by repeat (first | (with_reducible first | exact HB.out | apply below_alloc | apply pw_below_drewN | apply below_drew1) | exact HB.out)⟩
              · replace c18 := Bool.eq_false_iff.mpr c18
                subst c18
                have H1 : (if a0 < 0 then ((lookoutlaw01_awake.f kj11).bind fun t299 => (some t299)) else ((varint_Append.f kj11 a1 a0).bind fun bt300 => (if bt300.2 = 0 then ((strings_HasPrefix.f bt300.1 a1).bind fun t302 => (lookoutlaw01_VarintBack.j2 kj11 a0 a1 bt300.1 (!t302))) else (lookoutlaw01_VarintBack.j2 kj11 a0 a1 bt300.1 true)))) = some r := by rw [if_neg (show ¬ (false = true) by decide)] at H; exact H
                clear H
                have H := H1
                clear H1
                by_cases c19 : a0 < 0
                · rw [if_pos c19] at H
                  have c19b0 : decide (a0 < 0) = true := decide_eq_true c19
                  clear c19
                  replace H := Option.bind_eq_some_iff.mp H
                  obtain ⟨t299, A200, H⟩ := H
                  replace H : (some t299) = some r := H
                  have A20 := Aside0.mk A200
                  clear A200
                  obtain rfl := Option.some.inj H
                  go_wp2_with (first | ((with_reducible refine gate_callee (f := 10) rfl ?_); refine goesL_ (some 54) rfl rfl Try.func10 (by kernel_rfl) rfl #[] rfl (by (try simp only [List.map_toArray, List.map_cons, List.map_nil]); first | done | rfl | (simp only [List.length_drop, List.length_take]; rfl)) ?_; (with_reducible refine (lookoutlaw01_awake.calls kj11  t299 _ A20.out).mono ?_); rintro e w21 ⟨rfl, hb⟩; refine ⟨_, rfl, ?_⟩; have n0_ := Aside0.mk (below_step (by repeat (first | (with_reducible first | exact HB.out | apply below_alloc | apply pw_below_drewN | apply below_drew1) | exact HB.out)) hb); clear HB; have HB := n0_; clear n0_; (try clear hb); (try clear hb2); (try clear hk); (try clear hi)))
                  go_ret
                  exact ⟨by first | rfl | (simp [errW_none, errW_some] <;> rfl) | (simp [*, errW_none, errW_some] <;> rfl), by repeat (first | (with_reducible first | exact HB.out | apply below_alloc | apply pw_below_drewN | apply below_drew1) | exact HB.out)⟩
                · rw [if_neg c19] at H
                  have c19b0 : decide (a0 < 0) = false := decide_eq_false c19
                  clear c19
                  replace H := Option.bind_eq_some_iff.mp H
                  obtain ⟨⟨t300, t301⟩, A220, H⟩ := H
                  replace H : (if t301 = 0 then ((strings_HasPrefix.f t300 a1).bind fun t302 => (lookoutlaw01_VarintBack.j2 kj11 a0 a1 t300 (!t302))) else (lookoutlaw01_VarintBack.j2 kj11 a0 a1 t300 true)) = some r := H
                  have A22 := Aside0.mk A220
                  clear A220
                  have HC23 := Aside0.mk H
                  clear H
                  go_upto_region 10 with (first | ((with_reducible refine gate_callee (f := 20) rfl ?_); refine goesL_ (some 58) rfl rfl Try.func20 (by kernel_rfl) rfl #[.string a1, .int .i64 a0] rfl (by (try simp only [List.map_toArray, List.map_cons, List.map_nil]); first | done | rfl | (simp only [List.length_drop, List.length_take]; rfl)) ?_; (with_reducible refine (varint_Append.calls kj11 a1 a0 t300 t301 _ A22.out).mono ?_); rintro e w24 ⟨rfl, hb⟩; refine ⟨_, rfl, ?_⟩; have n0_ := Aside0.mk (below_step (by repeat (first | (with_reducible first | exact HB.out | apply below_alloc | apply pw_below_drewN | apply below_drew1) | exact HB.out)) hb); clear HB; have HB := n0_; clear n0_; (try clear hb); (try clear hb2); (try clear hk); (try clear hi)))
                  (try simp only [Act.put, List.setIfInBounds_toArray, List.set_cons_zero, List.set_cons_succ])
                  go_cut [68] (fun v68 wc => ∃ (kq : Nat) (x68_22 : Bool), v68 = .bool x68_22 ∧ Aside0 (lookoutlaw01_VarintBack.j2 kq a0 a1 t300 x68_22 = some r) ∧ Aside0 (kq ≤ kj11) ∧ Aside0 (Below w.heap.size w wc))
                  case first =>
                    have H := HC23.out
                    clear HC23
                    by_cases c25 : t301 = 0
                    · rw [if_pos c25] at H
                      have c25b0 : (t301 == 0) = true := beq_iff_eq.mpr c25
                      have c25b1 : (t301 != 0) = false := bne_eq_false_iff_eq.mpr c25
                      clear c25
                      (first | rw [c25b0] | (simp only [i64_w, i32_w]; rw [c25b0]) | skip)
                      replace H := Option.bind_eq_some_iff.mp H
                      obtain ⟨t302, A260, H⟩ := H
                      replace H : (lookoutlaw01_VarintBack.j2 kj11 a0 a1 t300 (!t302)) = some r := H
                      have A26 := Aside0.mk A260
                      clear A260
                      have H' := Aside0.mk H
                      clear H
                      go_wp2_with (first | (go_at_call 29; (with_reducible refine (strings_HasPrefix.calls t300 a1 t302 _ A26.out).mono ?_); rintro e w' ⟨rfl, ⟨nd, rfl⟩⟩))
                      go_meet
                      case rel => exact ⟨_, (!t302), (by first | rfl | (simp; done) | (simp [*]; done)), H', ⟨by have := HJ2.out; have := HJ11.out; first | omega | exact Nat.le_refl _⟩, ⟨by repeat (first | (with_reducible first | exact HB.out | apply below_alloc | apply pw_below_drewN | apply below_drew1) | exact HB.out)⟩⟩
                    · rw [if_neg c25] at H
                      have c25b0 : (t301 == 0) = false := beq_eq_false_iff_ne.mpr c25
                      have c25b1 : (t301 != 0) = true := bne_iff_ne.mpr c25
                      (first | rw [c25b0] | (simp only [i64_w, i32_w]; rw [c25b0]) | skip)
                      have H' := Aside0.mk H
                      clear H
                      go_wp2
                      go_meet
                      case rel => exact ⟨_, (true), (by first | rfl | (simp; done) | (simp [*]; done)), H', ⟨by have := HJ2.out; have := HJ11.out; first | omega | exact Nat.le_refl _⟩, ⟨by repeat (first | (with_reducible first | exact HB.out | apply below_alloc | apply pw_below_drewN | apply below_drew1) | exact HB.out)⟩⟩
                  case rest =>
                    clear HC23
                    try clear c1
                    try clear c2
                    try clear p2
                    try clear c4
                    try clear c4b0
                    try clear c5
                    try clear c5b0
                    try clear c6
                    try clear c9
                    try clear c10
                    try clear c10b0
                    try clear c10b1
                    try clear c10b2
                    try clear c13
                    try clear c15
                    try clear c15b0
                    try clear c15b1
                    try clear c16
                    try clear c16b0
                    try clear c16b1
                    try clear c17
                    try clear c17b0
                    try clear c17b1
                    try clear c18
                    try clear c19
                    try clear c19b0
                    try clear c20
                    try clear c21
                    try clear c25
                    try clear c25b0
                    try clear c25b1
                    try clear p2
                    obtain ⟨kq, x68_22, rfl, HA, HJ22, HB⟩ := hcut
                    cases kq with
                    | zero => exact absurd HA.out (by simp [lookoutlaw01_VarintBack.j2])
                    | succ kj22 =>
                      have H := HA.out
                      clear HA
                      simp only [lookoutlaw01_VarintBack.j2] at H
                      by_cases c27 : x68_22 = true
                      · subst c27
                        have H1 : (some false) = some r := by rw [if_pos rfl] at H; exact H
                        clear H
                        have H := H1
                        clear H1
                        obtain rfl := Option.some.inj H
                        go_wp2
                        go_ret
                        exact ⟨by first | rfl | (simp [errW_none, errW_some] <;> rfl) | (simp [*, errW_none, errW_some] <;> rfl), by repeat (first | (with_reducible first | exact HB.out | apply below_alloc | apply pw_below_drewN | apply below_drew1) | exact HB.out)⟩
                      · replace c27 := Bool.eq_false_iff.mpr c27
                        subst c27
                        have H1 : (if 0 ≤ (a1.size : Int) then (if (a1.size : Int) ≤ (t300.size : Int) then (if (t300.extract ((a1.size : Int) : Int).toNat t300.size).size + a1.size ≤ 9223372036854775807 then ((varint_Read.f ((t300.extract ((a1.size : Int) : Int).toNat t300.size) ++ a1)).bind fun bt303 => (if bt303.2.2 = 0 then (if bt303.1 = a0 then (if bt303.2.1 = (wrap64 ((t300.size : Int) - (a1.size : Int))) then ((varint_Size.f kj22 a0).bind fun t306 => (if bt303.2.1 = t306 then ((lookoutlaw01_awake.f kj22).bind fun t307 => (some t307)) else (some false))) else (some false)) else (some false)) else (some false))) else (none)) else (none)) else (none)) = some r := by rw [if_neg (show ¬ (false = true) by decide)] at H; exact H
                        clear H
                        have H := H1
                        clear H1
                        by_cases c28 : 0 ≤ (a1.size : Int)
                        · rw [if_pos c28] at H
                          have c28b0 := eq_true c28
                          have c28b1 : decide (0 ≤ (a1.size : Int)) = true := decide_eq_true c28
                          clear c28
                          by_cases c29 : (a1.size : Int) ≤ (t300.size : Int)
                          · rw [if_pos c29] at H
                            have c29b0 := eq_true c29
                            have c29b1 : decide ((a1.size : Int) ≤ (t300.size : Int)) = true := decide_eq_true c29
                            clear c29
                            by_cases c30 : (t300.extract ((a1.size : Int) : Int).toNat t300.size).size + a1.size ≤ 9223372036854775807
                            · rw [if_pos c30] at H
                              have c30b0 := eq_true c30
                              have c30b1 : decide ((t300.extract ((a1.size : Int) : Int).toNat t300.size).size + a1.size ≤ 9223372036854775807) = true := decide_eq_true c30
                              try have c30b2 : (9223372036854775807 < (t300.extract ((a1.size : Int) : Int).toNat t300.size).size + a1.size) = False := eq_false (Nat.not_lt.2 c30)
                              try have c30b3 := by have h := c30b2; simp only [ByteArray.size_extract, Int.toNat_natCast, Nat.min_self] at h; exact h
                              replace H := Option.bind_eq_some_iff.mp H
                              obtain ⟨⟨t303, t304, t305⟩, A310, H⟩ := H
                              replace H : (if t305 = 0 then (if t303 = a0 then (if t304 = (wrap64 ((t300.size : Int) - (a1.size : Int))) then ((varint_Size.f kj22 a0).bind fun t306 => (if t304 = t306 then ((lookoutlaw01_awake.f kj22).bind fun t307 => (some t307)) else (some false))) else (some false)) else (some false)) else (some false)) = some r := H
                              have A31 := Aside0.mk A310
                              clear A310
                              by_cases c32 : t305 = 0
                              · rw [if_pos c32] at H
                                have c32b0 : (t305 == 0) = true := beq_iff_eq.mpr c32
                                have c32b1 : (t305 != 0) = false := bne_eq_false_iff_eq.mpr c32
                                clear c32
                                by_cases c33 : t303 = a0
                                · rw [if_pos c33] at H
                                  have c33b0 : (t303 == a0) = true := beq_iff_eq.mpr c33
                                  have c33b1 : (t303 != a0) = false := bne_eq_false_iff_eq.mpr c33
                                  clear c33
                                  by_cases c34 : t304 = (wrap64 ((t300.size : Int) - (a1.size : Int)))
                                  · rw [if_pos c34] at H
                                    have c34b0 : (t304 == (wrap64 ((t300.size : Int) - (a1.size : Int)))) = true := beq_iff_eq.mpr c34
                                    have c34b1 : (t304 != (wrap64 ((t300.size : Int) - (a1.size : Int)))) = false := bne_eq_false_iff_eq.mpr c34
                                    clear c34
                                    replace H := Option.bind_eq_some_iff.mp H
                                    obtain ⟨t306, A350, H⟩ := H
                                    replace H : (if t304 = t306 then ((lookoutlaw01_awake.f kj22).bind fun t307 => (some t307)) else (some false)) = some r := H
                                    have A35 := Aside0.mk A350
                                    clear A350
                                    by_cases c36 : t304 = t306
                                    · rw [if_pos c36] at H
                                      have c36b0 : (t304 == t306) = true := beq_iff_eq.mpr c36
                                      have c36b1 : (t304 != t306) = false := bne_eq_false_iff_eq.mpr c36
                                      clear c36
                                      replace H := Option.bind_eq_some_iff.mp H
                                      obtain ⟨t307, A370, H⟩ := H
                                      replace H : (some t307) = some r := H
                                      have A37 := Aside0.mk A370
                                      clear A370
                                      obtain rfl := Option.some.inj H
                                      go_wp2_with (first | ((with_reducible refine gate_callee (f := 11) rfl ?_); refine goesL_ (some 76) rfl rfl Try.func11 (by kernel_rfl) rfl #[.string ((t300.extract ((a1.size : Int) : Int).toNat t300.size) ++ a1)] rfl (by (try simp only [List.map_toArray, List.map_cons, List.map_nil]); first | done | rfl | (simp only [List.length_drop, List.length_take]; rfl)) ?_; (with_reducible refine (varint_Read.calls ((t300.extract ((a1.size : Int) : Int).toNat t300.size) ++ a1) t303 t304 t305 _ A31.out).mono ?_); rintro e w38 ⟨rfl, hb⟩; refine ⟨_, rfl, ?_⟩; have n0_ := Aside0.mk (below_step (by repeat (first | (with_reducible first | exact HB.out | apply below_alloc | apply pw_below_drewN | apply below_drew1) | exact HB.out)) hb); clear HB; have HB := n0_; clear n0_; (try clear hb); (try clear hb2); (try clear hk); (try clear hi)) | (go_at_call 27; (with_reducible refine (varint_Size.calls kj22 a0 t306 _ A35.out).mono ?_); rintro e w' ⟨rfl, ⟨nd, rfl⟩⟩) | (go_at_call 10; (with_reducible refine (lookoutlaw01_awake.calls kj22  t307 _ A37.out).mono ?_); rintro e w39 ⟨rfl, hb⟩; have n0_ := Aside0.mk (below_step (by repeat (first | (with_reducible first | exact HB.out | apply below_alloc | apply pw_below_drewN | apply below_drew1) | exact HB.out)) hb); clear HB; have HB := n0_; clear n0_; (try clear hb); (try clear hb2); (try clear hk); (try clear hi)))
                                      go_ret
                                      exact ⟨by first | rfl | (simp [errW_none, errW_some] <;> rfl) | (simp [*, errW_none, errW_some] <;> rfl), by repeat (first | (with_reducible first | exact HB.out | apply below_alloc | apply pw_below_drewN | apply below_drew1) | exact HB.out)⟩
                                    · rw [if_neg c36] at H
                                      have c36b0 : (t304 == t306) = false := beq_eq_false_iff_ne.mpr c36
                                      have c36b1 : (t304 != t306) = true := bne_iff_ne.mpr c36
                                      obtain rfl := Option.some.inj H
                                      go_wp2_with (first | ((with_reducible refine gate_callee (f := 11) rfl ?_); refine goesL_ (some 76) rfl rfl Try.func11 (by kernel_rfl) rfl #[.string ((t300.extract ((a1.size : Int) : Int).toNat t300.size) ++ a1)] rfl (by (try simp only [List.map_toArray, List.map_cons, List.map_nil]); first | done | rfl | (simp only [List.length_drop, List.length_take]; rfl)) ?_; (with_reducible refine (varint_Read.calls ((t300.extract ((a1.size : Int) : Int).toNat t300.size) ++ a1) t303 t304 t305 _ A31.out).mono ?_); rintro e w40 ⟨rfl, hb⟩; refine ⟨_, rfl, ?_⟩; have n0_ := Aside0.mk (below_step (by repeat (first | (with_reducible first | exact HB.out | apply below_alloc | apply pw_below_drewN | apply below_drew1) | exact HB.out)) hb); clear HB; have HB := n0_; clear n0_; (try clear hb); (try clear hb2); (try clear hk); (try clear hi)) | (go_at_call 27; (with_reducible refine (varint_Size.calls kj22 a0 t306 _ A35.out).mono ?_); rintro e w' ⟨rfl, ⟨nd, rfl⟩⟩))
                                      go_ret
                                      exact ⟨by first | rfl | (simp [errW_none, errW_some] <;> rfl) | (simp [*, errW_none, errW_some] <;> rfl), by repeat (first | (with_reducible first | exact HB.out | apply below_alloc | apply pw_below_drewN | apply below_drew1) | exact HB.out)⟩
                                  · rw [if_neg c34] at H
                                    have c34b0 : (t304 == (wrap64 ((t300.size : Int) - (a1.size : Int)))) = false := beq_eq_false_iff_ne.mpr c34
                                    have c34b1 : (t304 != (wrap64 ((t300.size : Int) - (a1.size : Int)))) = true := bne_iff_ne.mpr c34
                                    obtain rfl := Option.some.inj H
                                    go_wp2_with (first | ((with_reducible refine gate_callee (f := 11) rfl ?_); refine goesL_ (some 76) rfl rfl Try.func11 (by kernel_rfl) rfl #[.string ((t300.extract ((a1.size : Int) : Int).toNat t300.size) ++ a1)] rfl (by (try simp only [List.map_toArray, List.map_cons, List.map_nil]); first | done | rfl | (simp only [List.length_drop, List.length_take]; rfl)) ?_; (with_reducible refine (varint_Read.calls ((t300.extract ((a1.size : Int) : Int).toNat t300.size) ++ a1) t303 t304 t305 _ A31.out).mono ?_); rintro e w41 ⟨rfl, hb⟩; refine ⟨_, rfl, ?_⟩; have n0_ := Aside0.mk (below_step (by repeat (first | (with_reducible first | exact HB.out | apply below_alloc | apply pw_below_drewN | apply below_drew1) | exact HB.out)) hb); clear HB; have HB := n0_; clear n0_; (try clear hb); (try clear hb2); (try clear hk); (try clear hi)))
                                    go_ret
                                    exact ⟨by first | rfl | (simp [errW_none, errW_some] <;> rfl) | (simp [*, errW_none, errW_some] <;> rfl), by repeat (first | (with_reducible first | exact HB.out | apply below_alloc | apply pw_below_drewN | apply below_drew1) | exact HB.out)⟩
                                · rw [if_neg c33] at H
                                  have c33b0 : (t303 == a0) = false := beq_eq_false_iff_ne.mpr c33
                                  have c33b1 : (t303 != a0) = true := bne_iff_ne.mpr c33
                                  obtain rfl := Option.some.inj H
                                  go_wp2_with (first | ((with_reducible refine gate_callee (f := 11) rfl ?_); refine goesL_ (some 76) rfl rfl Try.func11 (by kernel_rfl) rfl #[.string ((t300.extract ((a1.size : Int) : Int).toNat t300.size) ++ a1)] rfl (by (try simp only [List.map_toArray, List.map_cons, List.map_nil]); first | done | rfl | (simp only [List.length_drop, List.length_take]; rfl)) ?_; (with_reducible refine (varint_Read.calls ((t300.extract ((a1.size : Int) : Int).toNat t300.size) ++ a1) t303 t304 t305 _ A31.out).mono ?_); rintro e w42 ⟨rfl, hb⟩; refine ⟨_, rfl, ?_⟩; have n0_ := Aside0.mk (below_step (by repeat (first | (with_reducible first | exact HB.out | apply below_alloc | apply pw_below_drewN | apply below_drew1) | exact HB.out)) hb); clear HB; have HB := n0_; clear n0_; (try clear hb); (try clear hb2); (try clear hk); (try clear hi)))
                                  go_ret
                                  exact ⟨by first | rfl | (simp [errW_none, errW_some] <;> rfl) | (simp [*, errW_none, errW_some] <;> rfl), by repeat (first | (with_reducible first | exact HB.out | apply below_alloc | apply pw_below_drewN | apply below_drew1) | exact HB.out)⟩
                              · rw [if_neg c32] at H
                                have c32b0 : (t305 == 0) = false := beq_eq_false_iff_ne.mpr c32
                                have c32b1 : (t305 != 0) = true := bne_iff_ne.mpr c32
                                obtain rfl := Option.some.inj H
                                go_wp2_with (first | ((with_reducible refine gate_callee (f := 11) rfl ?_); refine goesL_ (some 76) rfl rfl Try.func11 (by kernel_rfl) rfl #[.string ((t300.extract ((a1.size : Int) : Int).toNat t300.size) ++ a1)] rfl (by (try simp only [List.map_toArray, List.map_cons, List.map_nil]); first | done | rfl | (simp only [List.length_drop, List.length_take]; rfl)) ?_; (with_reducible refine (varint_Read.calls ((t300.extract ((a1.size : Int) : Int).toNat t300.size) ++ a1) t303 t304 t305 _ A31.out).mono ?_); rintro e w43 ⟨rfl, hb⟩; refine ⟨_, rfl, ?_⟩; have n0_ := Aside0.mk (below_step (by repeat (first | (with_reducible first | exact HB.out | apply below_alloc | apply pw_below_drewN | apply below_drew1) | exact HB.out)) hb); clear HB; have HB := n0_; clear n0_; (try clear hb); (try clear hb2); (try clear hk); (try clear hi)))
                                go_ret
                                exact ⟨by first | rfl | (simp [errW_none, errW_some] <;> rfl) | (simp [*, errW_none, errW_some] <;> rfl), by repeat (first | (with_reducible first | exact HB.out | apply below_alloc | apply pw_below_drewN | apply below_drew1) | exact HB.out)⟩
                            · rw [if_neg c30] at H
                              exact absurd H (by simp)
                          · rw [if_neg c29] at H
                            exact absurd H (by simp)
                        · rw [if_neg c28] at H
                          exact absurd H (by simp)
        · rw [if_neg c10] at H
          exact absurd H (by simp)

/-- THE ONE PURE STATEMENT of lookoutlaw01_VarintBack: yours. -/
def lookoutlaw01_VarintBack.Pure : Prop := ∀ (a0 : Int) (a1 : ByteArray), (Lit.int .i64 a0).wf = true → a1.size ≤ 140737488351232 → ∃ k, lookoutlaw01_VarintBack.f k a0 a1 = some true
theorem lookoutlaw01_VarintBack.walk (P : lookoutlaw01_VarintBack.Pure) (a0 : Int) (a1 : ByteArray) (w : World) (w0 : (Lit.int .i64 a0).wf = true) (w1 : a1.size ≤ 140737488351232) :
    Calls Try.prog 9 #[.int .i64 a0, .string a1] w fun e w' => e = .returned (.bool true) ∧ Below w.heap.size w w' := by
  obtain ⟨k, h⟩ := P a0 a1 w0 w1
  refine (lookoutlaw01_VarintBack.calls k a0 a1 true w h).mono ?_
  rintro e w' ⟨rfl, hd⟩
  exact ⟨rfl, hd⟩

end Go.Proofs.Ythfcllfbihkpfaa.P
