/- Several texts of this session in one. No condition beyond those in the statements. -/
import Derived.Test.YtdokabaeddaipaaProg
import Derived.Below
import Derived.Deep.Draws
import Derived.Deep.AppendLies
import Derived.Maps.AppendAt
import Derived.OwnWalk
import Derived.Laws.BytesArg
import Derived.Laws.MakeOwn
import Derived.Laws.OwnMore
import Derived.Deep.OwnRows
import Derived.Tactics
import Derived.Lib.ConvBytes
import Derived.Laws.Slices
import Derived.WalkKit
import Derived.KernelRfl
import Derived.RowKit3
import Derived.Deep.LoopGhost
import Derived.Deep.QuietTactic
import Derived.BigQuiet
import Derived.WideLaws
import Derived.Deep.DeepCutAuto
import Derived.Deep.CutBlock
import Derived.Deep.RegionHeld3
import Derived.Laws.Rows
import Derived.Lib.AppendStr
import Derived.ArgAppend
import Derived.Laws.IdiomCopy
import Derived.OrdersHeld
import Derived.Laws.BitsLemmas
import Derived.RowKit
import Derived.Test.YtdokabaeddaipaaHWords
import Derived.Test.YtdokabaeddaipaaWWords
import Derived.Test.YtdokabaeddaipaaWLast
import Derived.Test.YtdokabaeddaipaaWTab
import Derived.Test.YtdokabaeddaipaaWFour
import Derived.Test.YtdokabaeddaipaaWQPut
import Derived.Test.YtdokabaeddaipaaWApart
import Derived.Test.YtdokabaeddaipaaWArr
import Derived.Test.YtdokabaeddaipaaWZeros
import Derived.Test.YtdokabaeddaipaaWFoot
import Derived.Test.YtdokabaeddaipaaWKept
import Derived.Test.YtdokabaeddaipaaWShare
import Derived.Test.YtdokabaeddaipaaWN
import Derived.Test.YtdokabaeddaipaaWFootNe
import Derived.Test.YtdokabaeddaipaaWAt
import Derived.Test.YtdokabaeddaipaaWEqStruct
import Derived.Test.YtdokabaeddaipaaWRepsOne
import Derived.Test.YtdokabaeddaipaaWInv
import Derived.Test.YtdokabaeddaipaaWInvWords
import Derived.Test.YtdokabaeddaipaaWGuard
import Derived.Test.YtdokabaeddaipaaWNEv
import Derived.Test.YtdokabaeddaipaaWMore
section
namespace Go.Proofs.Ytdokabaeddaipaa.A
open Go.RowKit Go.Proofs.YtdokabaeddaipaaW.PrintWords Go.Proofs.YtdokabaeddaipaaW.PrintLast Go.Proofs.YtdokabaeddaipaaW.PrintMore Go.Proofs.Ytdokabaeddaipaa.Hand
attribute [local go_sem] max2_int min2_int max_two min_two max_three min_three max_four min_four   -- for this text's walks alone
set_option linter.unusedVariables false
set_option linter.unusedSimpArgs false



def errW : Option Int → Value
  | none => .nilIface
  | some c => .iface 0 (.int .i64 c)
theorem errW_none : errW none = .nilIface := rfl
theorem errW_some (c : Int) : errW (some c) = .iface 0 (.int .i64 c) := rfl

-- the values' own types

end Go.Proofs.Ytdokabaeddaipaa.A
end
section
namespace Go.Proofs.Ytdokabaeddaipaa.A
open Go.RowKit Go.Proofs.YtdokabaeddaipaaW.PrintWords Go.Proofs.YtdokabaeddaipaaW.PrintLast Go.Proofs.YtdokabaeddaipaaW.PrintMore Go.Proofs.Ytdokabaeddaipaa.Hand
attribute [local go_sem] max2_int min2_int max_two min_two max_three min_three max_four min_four   -- for this text's walks alone
set_option linter.unusedVariables false
set_option linter.unusedSimpArgs false

theorem eqA23 (d : Nat) (w : World) (x0 y0 : Int) (x1 y1 : Int) (x2 y2 : Int) (x3 y3 : Int) (x4 y4 : Int) (x5 y5 : Int) (x6 y6 : Int) (x7 y7 : Int) :
    (Op.equalIn (d + 2) 23 (.agg #[.int .u32 x0, .int .u32 x1, .int .u32 x2, .int .u32 x3, .int .u32 x4, .int .u32 x5, .int .u32 x6, .int .u32 x7]) (.agg #[.int .u32 y0, .int .u32 y1, .int .u32 y2, .int .u32 y3, .int .u32 y4, .int .u32 y5, .int .u32 y6, .int .u32 y7])).run Try.prog w = .ok (x0 == y0 && (x1 == y1 && (x2 == y2 && (x3 == y3 && (x4 == y4 && (x5 == y5 && (x6 == y6 && (x7 == y7)))))))) w := by
  refine eqArr_of (l := [0, 1, 2, 3, 4, 5, 6, 7]) Try.underlying23 (by kernel_rfl) (show Try.prog.cellsOf 22 = 1 by kernel_rfl) rfl ?_
  refine eqi_cons (by go_simp; rfl) (by go_simp; rfl) (by go_simp) ?_
  refine eqi_cons (by go_simp; rfl) (by go_simp; rfl) (by go_simp) ?_
  refine eqi_cons (by go_simp; rfl) (by go_simp; rfl) (by go_simp) ?_
  refine eqi_cons (by go_simp; rfl) (by go_simp; rfl) (by go_simp) ?_
  refine eqi_cons (by go_simp; rfl) (by go_simp; rfl) (by go_simp) ?_
  refine eqi_cons (by go_simp; rfl) (by go_simp; rfl) (by go_simp) ?_
  refine eqi_cons (by go_simp; rfl) (by go_simp; rfl) (by go_simp) ?_
  exact eqi_last (by go_simp; rfl) (by go_simp; rfl) (by go_simp)
theorem eqA25 (d : Nat) (w : World) (x0 y0 : Int) (x1 y1 : Int) (x2 y2 : Int) (x3 y3 : Int) (x4 y4 : Int) (x5 y5 : Int) (x6 y6 : Int) (x7 y7 : Int) (x8 y8 : Int) (x9 y9 : Int) (x10 y10 : Int) (x11 y11 : Int) (x12 y12 : Int) :
    (Op.equalIn (d + 3) 25 (.agg #[.int .i64 x0, .int .i64 x1, .int .i64 x2, .int .i64 x3, .int .i64 x4, .int .u32 x5, .int .u32 x6, .int .u32 x7, .int .u32 x8, .int .u32 x9, .int .u32 x10, .int .u32 x11, .int .u32 x12]) (.agg #[.int .i64 y0, .int .i64 y1, .int .i64 y2, .int .i64 y3, .int .i64 y4, .int .u32 y5, .int .u32 y6, .int .u32 y7, .int .u32 y8, .int .u32 y9, .int .u32 y10, .int .u32 y11, .int .u32 y12])).run Try.prog w = .ok (x0 == y0 && (x1 == y1 && (x2 == y2 && (x3 == y3 && (x4 == y4 && ((x5 == y5 && (x6 == y6 && (x7 == y7 && (x8 == y8 && (x9 == y9 && (x10 == y10 && (x11 == y11 && (x12 == y12)))))))))))))) w := by
  refine eqA_of Try.underlying25 (by kernel_rfl) ?_
  refine eqf_cons (by rfl) (by go_simp; rfl) (by go_simp; rfl) (by go_simp) ?_
  refine eqf_cons (by rfl) (by go_simp; rfl) (by go_simp; rfl) (by go_simp) ?_
  refine eqf_cons (by rfl) (by go_simp; rfl) (by go_simp; rfl) (by go_simp) ?_
  refine eqf_cons (by rfl) (by go_simp; rfl) (by go_simp; rfl) (by go_simp) ?_
  refine eqf_cons (by rfl) (by go_simp; rfl) (by go_simp; rfl) (by go_simp) ?_
  exact eqf_last (by rfl) (by go_simp) (by go_simp) (eqA23 (d + 0) w _ _ _ _ _ _ _ _ _ _ _ _ _ _ _ _)
end Go.Proofs.Ytdokabaeddaipaa.A
end
section
namespace Go.Proofs.Ytdokabaeddaipaa.A
open Go.RowKit Go.Proofs.YtdokabaeddaipaaW.PrintWords Go.Proofs.YtdokabaeddaipaaW.PrintLast Go.Proofs.YtdokabaeddaipaaW.PrintMore Go.Proofs.Ytdokabaeddaipaa.Hand
attribute [local go_sem] max2_int min2_int max_two min_two max_three min_three max_four min_four   -- for this text's walks alone
set_option linter.unusedVariables false
set_option linter.unusedSimpArgs false

/-! ### labels_HashString: function 54 -/
def labels_HashString.l0 : Nat → ByteArray → Int → Int → Option (Int)
  | 0, _, _, _ => none
  | k + 1, x0, x3, x4 => if x4 < (x0.size : Int) then (if 0 ≤ x4 then (labels_HashString.l0 k x0 (((Go.bits .xor .u32 x3 ((bt x0 x4) % 4294967296)) * 16777619) % 4294967296) (wrap64 (x4 + 1))) else (none)) else (some (wrap64 (x3)))
def labels_HashString.f (k : Nat) (a0 : ByteArray) : Option (Int) := labels_HashString.l0 k a0 2166136261 0
theorem labels_HashString.mono_l : ∀ k, (∀ y0 y1 y2, LeO (labels_HashString.l0 k y0 y1 y2) (labels_HashString.l0 (k + 1) y0 y1 y2))
  | 0 => fun _ _ _ r h => by simp [labels_HashString.l0] at h
  | k + 1 => by
    have ih0 := labels_HashString.mono_l k
    · intro y0 y1 y2
      unfold labels_HashString.l0
      repeat' first
      | (with_reducible exact ih0 _ _ _)
      | (with_reducible exact LeO.refl _)
      | (with_reducible exact LeO.none _)
      | (with_reducible refine LeO.ite ?_ ?_)
      | (with_reducible refine LeO.bind ?_ (fun _ => ?_))
      | exact ih0 _ _ _
      | exact LeO.none _
      | refine LeO.ite ?_ ?_
      | refine LeO.bind ?_ (fun _ => ?_)
theorem labels_HashString.mono : ∀ a0 k, LeO (labels_HashString.f k a0) (labels_HashString.f (k + 1) a0) := by
  intro a0 k
  have ih0 := labels_HashString.mono_l k
  unfold labels_HashString.f
  repeat' first
      | (with_reducible exact ih0 _ _ _)
      | (with_reducible exact LeO.refl _)
      | (with_reducible exact LeO.none _)
      | (with_reducible refine LeO.ite ?_ ?_)
      | (with_reducible refine LeO.bind ?_ (fun _ => ?_))
      | exact ih0 _ _ _
      | exact LeO.none _
      | refine LeO.ite ?_ ?_
      | refine LeO.bind ?_ (fun _ => ?_)
set_option maxHeartbeats 8000000 in
set_option maxRecDepth 100000 in
theorem labels_HashString.calls (k : Nat) (a0 : ByteArray) (r : Int) (w : World) (h : labels_HashString.f k a0 = some r) :
    Calls Try.prog 54 #[.string a0] w fun e w' => e = .returned (.int .i64 r) ∧ Drawn0 w w' := by
  have H : (labels_HashString.l0 k a0 2166136261 0) = some r := h
  clear h
  have H' := Aside0.mk H
  clear H
  go_enter Try.func54, Try.ntmps54
  go_wp2
  go_loopg [3, 4] k (fun kq v3 v4 w' => ∃ (x3_1 : Int) (x4_1 : Int), v3 = .int .u32 x3_1 ∧ v4 = .int .i64 x4_1 ∧ Aside0 (labels_HashString.l0 kq a0 x3_1 x4_1 = some r) ∧ Aside0 (kq ≤ k) ∧ Drawn0 w w')
  case atStart => exact ⟨(2166136261), (0), (by first | rfl | (simp; done) | (simp [*]; done)), (by first | rfl | (simp; done) | (simp [*]; done)), H', ⟨Nat.le_refl _⟩, by repeat (first | exact Drawn0.refl _ | apply Drawn0.step)⟩
  case round =>
    clear H'
    obtain ⟨x3_1, x4_1, rfl, rfl, HA, HK1, ⟨m1, rfl⟩⟩ := hrel
    cases gk with
    | zero => exact absurd HA.out (by simp [labels_HashString.l0])
    | succ k1 =>
      have H := HA.out
      clear HA
      simp only [labels_HashString.l0] at H
      by_cases c2 : x4_1 < (a0.size : Int)
      · rw [if_pos c2] at H
        have c2b0 : decide (x4_1 < (a0.size : Int)) = true := decide_eq_true c2
        clear c2
        by_cases c3 : 0 ≤ x4_1
        · rw [if_pos c3] at H
          have c3b0 : decide (0 ≤ x4_1) = true := decide_eq_true c3
          clear c3
          have H' := Aside0.mk H
          clear H
          have p4 : 0 ≤ (x4_1 : Int) := of_decide_eq_true (by first | (with_reducible assumption) | assumption)
          have q4 : x4_1 < (a0.size : Int) := of_decide_eq_true (by first | (with_reducible assumption) | assumption)
          have hx4 := bt_at a0 x4_1
          replace p4 := eq_true p4
          replace q4 := eq_true q4
          go_wp2
          go_roundg k1
          case measure => have := HK1.out; omega
          case rel => exact ⟨(((Go.bits .xor .u32 x3_1 ((bt a0 x4_1) % 4294967296)) * 16777619) % 4294967296), (wrap64 (x4_1 + 1)), (by first | rfl | (simp; done) | (simp [*]; done)), (by first | rfl | (simp; done) | (simp [*]; done)), H', ⟨by have := HK1.out; omega⟩, by repeat (first | exact Drawn0.refl _ | apply Drawn0.step)⟩
        · rw [if_neg c3] at H
          exact absurd H (by simp)
      · rw [if_neg c2] at H
        have c2b0 : decide (x4_1 < (a0.size : Int)) = false := decide_eq_false c2
        clear c2
        obtain rfl := Option.some.inj H
        go_wp2
        go_ret
        exact ⟨by first | rfl | (simp; done) | (simp [*]; done), by repeat (first | exact Drawn0.refl _ | apply Drawn0.step)⟩

end Go.Proofs.Ytdokabaeddaipaa.A
end
section
namespace Go.Proofs.Ytdokabaeddaipaa.A
open Go.RowKit Go.Proofs.YtdokabaeddaipaaW.PrintWords Go.Proofs.YtdokabaeddaipaaW.PrintLast Go.Proofs.YtdokabaeddaipaaW.PrintMore Go.Proofs.Ytdokabaeddaipaa.Hand
attribute [local go_sem] max2_int min2_int max_two min_two max_three min_three max_four min_four   -- for this text's walks alone
set_option linter.unusedVariables false
set_option linter.unusedSimpArgs false

/-! ### lookoutref05_HashString: function 55 -/
def lookoutref05_HashString.l0 : Nat → ByteArray → Int → Int → Option (Int)
  | 0, _, _, _ => none
  | k + 1, x0, x3, x4 => if x4 < (x0.size : Int) then (if 0 ≤ x4 then (lookoutref05_HashString.l0 k x0 (((Go.bits .xor .u32 x3 ((bt x0 x4) % 4294967296)) * 16777619) % 4294967296) (wrap64 (x4 + 1))) else (none)) else (some (wrap64 (x3)))
def lookoutref05_HashString.f (k : Nat) (a0 : ByteArray) : Option (Int) := lookoutref05_HashString.l0 k a0 2166136261 0
theorem lookoutref05_HashString.mono_l : ∀ k, (∀ y0 y1 y2, LeO (lookoutref05_HashString.l0 k y0 y1 y2) (lookoutref05_HashString.l0 (k + 1) y0 y1 y2))
  | 0 => fun _ _ _ r h => by simp [lookoutref05_HashString.l0] at h
  | k + 1 => by
    have ih0 := lookoutref05_HashString.mono_l k
    · intro y0 y1 y2
      unfold lookoutref05_HashString.l0
      repeat' first
      | (with_reducible exact ih0 _ _ _)
      | (with_reducible exact LeO.refl _)
      | (with_reducible exact LeO.none _)
      | (with_reducible refine LeO.ite ?_ ?_)
      | (with_reducible refine LeO.bind ?_ (fun _ => ?_))
      | exact ih0 _ _ _
      | exact LeO.none _
      | refine LeO.ite ?_ ?_
      | refine LeO.bind ?_ (fun _ => ?_)
theorem lookoutref05_HashString.mono : ∀ a0 k, LeO (lookoutref05_HashString.f k a0) (lookoutref05_HashString.f (k + 1) a0) := by
  intro a0 k
  have ih0 := lookoutref05_HashString.mono_l k
  unfold lookoutref05_HashString.f
  repeat' first
      | (with_reducible exact ih0 _ _ _)
      | (with_reducible exact LeO.refl _)
      | (with_reducible exact LeO.none _)
      | (with_reducible refine LeO.ite ?_ ?_)
      | (with_reducible refine LeO.bind ?_ (fun _ => ?_))
      | exact ih0 _ _ _
      | exact LeO.none _
      | refine LeO.ite ?_ ?_
      | refine LeO.bind ?_ (fun _ => ?_)
set_option maxHeartbeats 8000000 in
set_option maxRecDepth 100000 in
theorem lookoutref05_HashString.calls (k : Nat) (a0 : ByteArray) (r : Int) (w : World) (h : lookoutref05_HashString.f k a0 = some r) :
    Calls Try.prog 55 #[.string a0] w fun e w' => e = .returned (.int .i64 r) ∧ Drawn0 w w' := by
  have H : (lookoutref05_HashString.l0 k a0 2166136261 0) = some r := h
  clear h
  have H' := Aside0.mk H
  clear H
  go_enter Try.func55, Try.ntmps55
  go_wp2
  go_loopg [3, 4] k (fun kq v3 v4 w' => ∃ (x3_1 : Int) (x4_1 : Int), v3 = .int .u32 x3_1 ∧ v4 = .int .i64 x4_1 ∧ Aside0 (lookoutref05_HashString.l0 kq a0 x3_1 x4_1 = some r) ∧ Aside0 (kq ≤ k) ∧ Drawn0 w w')
  case atStart => exact ⟨(2166136261), (0), (by first | rfl | (simp; done) | (simp [*]; done)), (by first | rfl | (simp; done) | (simp [*]; done)), H', ⟨Nat.le_refl _⟩, by repeat (first | exact Drawn0.refl _ | apply Drawn0.step)⟩
  case round =>
    clear H'
    obtain ⟨x3_1, x4_1, rfl, rfl, HA, HK1, ⟨m1, rfl⟩⟩ := hrel
    cases gk with
    | zero => exact absurd HA.out (by simp [lookoutref05_HashString.l0])
    | succ k1 =>
      have H := HA.out
      clear HA
      simp only [lookoutref05_HashString.l0] at H
      by_cases c2 : x4_1 < (a0.size : Int)
      · rw [if_pos c2] at H
        have c2b0 : decide (x4_1 < (a0.size : Int)) = true := decide_eq_true c2
        clear c2
        by_cases c3 : 0 ≤ x4_1
        · rw [if_pos c3] at H
          have c3b0 : decide (0 ≤ x4_1) = true := decide_eq_true c3
          clear c3
          have H' := Aside0.mk H
          clear H
          have p4 : 0 ≤ (x4_1 : Int) := of_decide_eq_true (by first | (with_reducible assumption) | assumption)
          have q4 : x4_1 < (a0.size : Int) := of_decide_eq_true (by first | (with_reducible assumption) | assumption)
          have hx4 := bt_at a0 x4_1
          replace p4 := eq_true p4
          replace q4 := eq_true q4
          go_wp2
          go_roundg k1
          case measure => have := HK1.out; omega
          case rel => exact ⟨(((Go.bits .xor .u32 x3_1 ((bt a0 x4_1) % 4294967296)) * 16777619) % 4294967296), (wrap64 (x4_1 + 1)), (by first | rfl | (simp; done) | (simp [*]; done)), (by first | rfl | (simp; done) | (simp [*]; done)), H', ⟨by have := HK1.out; omega⟩, by repeat (first | exact Drawn0.refl _ | apply Drawn0.step)⟩
        · rw [if_neg c3] at H
          exact absurd H (by simp)
      · rw [if_neg c2] at H
        have c2b0 : decide (x4_1 < (a0.size : Int)) = false := decide_eq_false c2
        clear c2
        obtain rfl := Option.some.inj H
        go_wp2
        go_ret
        exact ⟨by first | rfl | (simp; done) | (simp [*]; done), by repeat (first | exact Drawn0.refl _ | apply Drawn0.step)⟩

end Go.Proofs.Ytdokabaeddaipaa.A
end
section
namespace Go.Proofs.Ytdokabaeddaipaa.A
open Go.RowKit Go.Proofs.YtdokabaeddaipaaW.PrintWords Go.Proofs.YtdokabaeddaipaaW.PrintLast Go.Proofs.YtdokabaeddaipaaW.PrintMore Go.Proofs.Ytdokabaeddaipaa.Hand
attribute [local go_sem] max2_int min2_int max_two min_two max_three min_three max_four min_four   -- for this text's walks alone
set_option linter.unusedVariables false
set_option linter.unusedSimpArgs false

/-! ### zonemap_isTime: function 34 -/
def zonemap_isTime.f (a0 : Int) : Option (Bool) := if a0 ≥ 1 then (some (decide (a0 ≤ 1099511627776))) else (some false)
set_option maxHeartbeats 8000000 in
set_option maxRecDepth 100000 in
theorem zonemap_isTime.calls (a0 : Int) (r : Bool) (w : World) (h : zonemap_isTime.f a0 = some r) :
    Calls Try.prog 34 #[.int .i64 a0] w fun e w' => e = .returned (.bool r) ∧ Drawn0 w w' := by
  have H : (if a0 ≥ 1 then (some (decide (a0 ≤ 1099511627776))) else (some false)) = some r := h
  clear h
  by_cases c2 : a0 ≥ 1
  · rw [if_pos c2] at H
    have c2b0 : decide (1 ≤ a0) = true := decide_eq_true c2
    clear c2
    obtain rfl := Option.some.inj H
    go_enter Try.func34, Try.ntmps34
    go_wp2
    go_ret
    exact ⟨by first | rfl | (simp; done) | (simp [*]; done), by repeat (first | exact Drawn0.refl _ | apply Drawn0.step)⟩
  · rw [if_neg c2] at H
    have c2b0 : decide (1 ≤ a0) = false := decide_eq_false c2
    clear c2
    obtain rfl := Option.some.inj H
    go_enter Try.func34, Try.ntmps34
    go_wp2
    go_ret
    exact ⟨by first | rfl | (simp; done) | (simp [*]; done), by repeat (first | exact Drawn0.refl _ | apply Drawn0.step)⟩

end Go.Proofs.Ytdokabaeddaipaa.A
end
section
namespace Go.Proofs.Ytdokabaeddaipaa.A
open Go.RowKit Go.Proofs.YtdokabaeddaipaaW.PrintWords Go.Proofs.YtdokabaeddaipaaW.PrintLast Go.Proofs.YtdokabaeddaipaaW.PrintMore Go.Proofs.Ytdokabaeddaipaa.Hand
attribute [local go_sem] max2_int min2_int max_two min_two max_three min_three max_four min_four   -- for this text's walks alone
set_option linter.unusedVariables false
set_option linter.unusedSimpArgs false

/-! ### zonemap_isValue: function 35 -/
def zonemap_isValue.f (a0 : Int) : Option (Bool) := if a0 ≥ (-1099511627776) then (some (decide (a0 ≤ 1099511627776))) else (some false)
set_option maxHeartbeats 8000000 in
set_option maxRecDepth 100000 in
theorem zonemap_isValue.calls (a0 : Int) (r : Bool) (w : World) (h : zonemap_isValue.f a0 = some r) :
    Calls Try.prog 35 #[.int .i64 a0] w fun e w' => e = .returned (.bool r) ∧ Drawn0 w w' := by
  have H : (if a0 ≥ (-1099511627776) then (some (decide (a0 ≤ 1099511627776))) else (some false)) = some r := h
  clear h
  by_cases c2 : a0 ≥ (-1099511627776)
  · rw [if_pos c2] at H
    have c2b0 : decide ((-1099511627776) ≤ a0) = true := decide_eq_true c2
    clear c2
    obtain rfl := Option.some.inj H
    go_enter Try.func35, Try.ntmps35
    go_wp2
    go_ret
    exact ⟨by first | rfl | (simp; done) | (simp [*]; done), by repeat (first | exact Drawn0.refl _ | apply Drawn0.step)⟩
  · rw [if_neg c2] at H
    have c2b0 : decide ((-1099511627776) ≤ a0) = false := decide_eq_false c2
    clear c2
    obtain rfl := Option.some.inj H
    go_enter Try.func35, Try.ntmps35
    go_wp2
    go_ret
    exact ⟨by first | rfl | (simp; done) | (simp [*]; done), by repeat (first | exact Drawn0.refl _ | apply Drawn0.step)⟩

end Go.Proofs.Ytdokabaeddaipaa.A
end
section
namespace Go.Proofs.Ytdokabaeddaipaa.A
open Go.RowKit Go.Proofs.YtdokabaeddaipaaW.PrintWords Go.Proofs.YtdokabaeddaipaaW.PrintLast Go.Proofs.YtdokabaeddaipaaW.PrintMore Go.Proofs.Ytdokabaeddaipaa.Hand
attribute [local go_sem] max2_int min2_int max_two min_two max_three min_three max_four min_four   -- for this text's walks alone
set_option linter.unusedVariables false
set_option linter.unusedSimpArgs false

attribute [local go_sem high] eqA25
/-! ### zonemap_Check: function 13 -/
mutual
def zonemap_Check.j0 : Nat → Bool → Int → Int → Int → Int → Int → Int → Int → Int → Int → Int → Int → Int → Int → Option (Int)
  | 0, _, _, _, _, _, _, _, _, _, _, _, _, _, _ => none
  | k + 1, x10, x102000, x102001, x102002, x102003, x102004, x102005, x102006, x102007, x102008, x102009, x102010, x102011, x102012 => if x10 = true then (some 2) else (if x102000 = 0 then (if (!(x102000 == 0) || (!(x102001 == 0) || (!(x102002 == 0) || (!(x102003 == 0) || (!(x102004 == 0) || ((!(x102005 == 0) || (!(x102006 == 0) || (!(x102007 == 0) || (!(x102008 == 0) || (!(x102009 == 0) || (!(x102010 == 0) || (!(x102011 == 0) || (!(x102012 == 0))))))))))))))) = true then (some 10) else (some 0)) else ((zonemap_isTime.f x102001).bind fun t102 => (if t102 = true then ((zonemap_isTime.f x102002).bind fun t103 => (zonemap_Check.j1 k (!t103) x102000 x102001 x102002 x102003 x102004 x102005 x102006 x102007 x102008 x102009 x102010 x102011 x102012)) else (zonemap_Check.j1 k true x102000 x102001 x102002 x102003 x102004 x102005 x102006 x102007 x102008 x102009 x102010 x102011 x102012))))
def zonemap_Check.j1 : Nat → Bool → Int → Int → Int → Int → Int → Int → Int → Int → Int → Int → Int → Int → Int → Option (Int)
  | 0, _, _, _, _, _, _, _, _, _, _, _, _, _, _ => none
  | k + 1, x26, x102000, x102001, x102002, x102003, x102004, x102005, x102006, x102007, x102008, x102009, x102010, x102011, x102012 => if x26 = true then (some 2) else (if x102001 > x102002 then (some 9) else ((zonemap_isValue.f x102003).bind fun t104 => (if t104 = true then ((zonemap_isValue.f x102004).bind fun t105 => (zonemap_Check.j2 k (!t105) x102000 x102001 x102002 x102003 x102004 x102005 x102006 x102007 x102008 x102009 x102010 x102011 x102012)) else (zonemap_Check.j2 k true x102000 x102001 x102002 x102003 x102004 x102005 x102006 x102007 x102008 x102009 x102010 x102011 x102012))))
def zonemap_Check.j2 : Nat → Bool → Int → Int → Int → Int → Int → Int → Int → Int → Int → Int → Int → Int → Int → Option (Int)
  | 0, _, _, _, _, _, _, _, _, _, _, _, _, _, _ => none
  | k + 1, x41, x102000, x102001, x102002, x102003, x102004, x102005, x102006, x102007, x102008, x102009, x102010, x102011, x102012 => if x41 = true then (some 2) else (if x102003 > x102004 then (some 9) else (some 0))
end
def zonemap_Check.f (k : Nat) (a0_0 : Int) (a0_1 : Int) (a0_2 : Int) (a0_3 : Int) (a0_4 : Int) (a0_5 : Int) (a0_6 : Int) (a0_7 : Int) (a0_8 : Int) (a0_9 : Int) (a0_10 : Int) (a0_11 : Int) (a0_12 : Int) : Option (Int) := if a0_0 < 0 then (zonemap_Check.j0 k true a0_0 a0_1 a0_2 a0_3 a0_4 a0_5 a0_6 a0_7 a0_8 a0_9 a0_10 a0_11 a0_12) else (zonemap_Check.j0 k (decide (a0_0 > 1152921504606846976)) a0_0 a0_1 a0_2 a0_3 a0_4 a0_5 a0_6 a0_7 a0_8 a0_9 a0_10 a0_11 a0_12)
theorem zonemap_Check.mono_l : ∀ k, (∀ y0 y1 y2 y3 y4 y5 y6 y7 y8 y9 y10 y11 y12 y13, LeO (zonemap_Check.j0 k y0 y1 y2 y3 y4 y5 y6 y7 y8 y9 y10 y11 y12 y13) (zonemap_Check.j0 (k + 1) y0 y1 y2 y3 y4 y5 y6 y7 y8 y9 y10 y11 y12 y13)) ∧ (∀ y0 y1 y2 y3 y4 y5 y6 y7 y8 y9 y10 y11 y12 y13, LeO (zonemap_Check.j1 k y0 y1 y2 y3 y4 y5 y6 y7 y8 y9 y10 y11 y12 y13) (zonemap_Check.j1 (k + 1) y0 y1 y2 y3 y4 y5 y6 y7 y8 y9 y10 y11 y12 y13)) ∧ (∀ y0 y1 y2 y3 y4 y5 y6 y7 y8 y9 y10 y11 y12 y13, LeO (zonemap_Check.j2 k y0 y1 y2 y3 y4 y5 y6 y7 y8 y9 y10 y11 y12 y13) (zonemap_Check.j2 (k + 1) y0 y1 y2 y3 y4 y5 y6 y7 y8 y9 y10 y11 y12 y13))
  | 0 => ⟨fun _ _ _ _ _ _ _ _ _ _ _ _ _ _ r h => by simp [zonemap_Check.j0] at h, fun _ _ _ _ _ _ _ _ _ _ _ _ _ _ r h => by simp [zonemap_Check.j1] at h, fun _ _ _ _ _ _ _ _ _ _ _ _ _ _ r h => by simp [zonemap_Check.j2] at h⟩
  | k + 1 => by
    obtain ⟨ih0, ih1, ih2⟩ := zonemap_Check.mono_l k
    refine ⟨?_, ?_, ?_⟩
    · intro y0 y1 y2 y3 y4 y5 y6 y7 y8 y9 y10 y11 y12 y13
      unfold zonemap_Check.j0
      repeat' first
      | (with_reducible exact ih0 _ _ _ _ _ _ _ _ _ _ _ _ _ _)
      | (with_reducible exact ih1 _ _ _ _ _ _ _ _ _ _ _ _ _ _)
      | (with_reducible exact ih2 _ _ _ _ _ _ _ _ _ _ _ _ _ _)
      | (with_reducible exact LeO.refl _)
      | (with_reducible exact LeO.none _)
      | (with_reducible refine LeO.ite ?_ ?_)
      | (with_reducible refine LeO.bind ?_ (fun _ => ?_))
      | exact ih0 _ _ _ _ _ _ _ _ _ _ _ _ _ _
      | exact ih1 _ _ _ _ _ _ _ _ _ _ _ _ _ _
      | exact ih2 _ _ _ _ _ _ _ _ _ _ _ _ _ _
      | exact LeO.none _
      | refine LeO.ite ?_ ?_
      | refine LeO.bind ?_ (fun _ => ?_)
    · intro y0 y1 y2 y3 y4 y5 y6 y7 y8 y9 y10 y11 y12 y13
      unfold zonemap_Check.j1
      repeat' first
      | (with_reducible exact ih0 _ _ _ _ _ _ _ _ _ _ _ _ _ _)
      | (with_reducible exact ih1 _ _ _ _ _ _ _ _ _ _ _ _ _ _)
      | (with_reducible exact ih2 _ _ _ _ _ _ _ _ _ _ _ _ _ _)
      | (with_reducible exact LeO.refl _)
      | (with_reducible exact LeO.none _)
      | (with_reducible refine LeO.ite ?_ ?_)
      | (with_reducible refine LeO.bind ?_ (fun _ => ?_))
      | exact ih0 _ _ _ _ _ _ _ _ _ _ _ _ _ _
      | exact ih1 _ _ _ _ _ _ _ _ _ _ _ _ _ _
      | exact ih2 _ _ _ _ _ _ _ _ _ _ _ _ _ _
      | exact LeO.none _
      | refine LeO.ite ?_ ?_
      | refine LeO.bind ?_ (fun _ => ?_)
    · intro y0 y1 y2 y3 y4 y5 y6 y7 y8 y9 y10 y11 y12 y13
      unfold zonemap_Check.j2
      repeat' first
      | (with_reducible exact ih0 _ _ _ _ _ _ _ _ _ _ _ _ _ _)
      | (with_reducible exact ih1 _ _ _ _ _ _ _ _ _ _ _ _ _ _)
      | (with_reducible exact ih2 _ _ _ _ _ _ _ _ _ _ _ _ _ _)
      | (with_reducible exact LeO.refl _)
      | (with_reducible exact LeO.none _)
      | (with_reducible refine LeO.ite ?_ ?_)
      | (with_reducible refine LeO.bind ?_ (fun _ => ?_))
      | exact ih0 _ _ _ _ _ _ _ _ _ _ _ _ _ _
      | exact ih1 _ _ _ _ _ _ _ _ _ _ _ _ _ _
      | exact ih2 _ _ _ _ _ _ _ _ _ _ _ _ _ _
      | exact LeO.none _
      | refine LeO.ite ?_ ?_
      | refine LeO.bind ?_ (fun _ => ?_)
theorem zonemap_Check.mono : ∀ a0 a1 a2 a3 a4 a5 a6 a7 a8 a9 a10 a11 a12 k, LeO (zonemap_Check.f k a0 a1 a2 a3 a4 a5 a6 a7 a8 a9 a10 a11 a12) (zonemap_Check.f (k + 1) a0 a1 a2 a3 a4 a5 a6 a7 a8 a9 a10 a11 a12) := by
  intro a0 a1 a2 a3 a4 a5 a6 a7 a8 a9 a10 a11 a12 k
  obtain ⟨ih0, ih1, ih2⟩ := zonemap_Check.mono_l k
  unfold zonemap_Check.f
  repeat' first
      | (with_reducible exact ih0 _ _ _ _ _ _ _ _ _ _ _ _ _ _)
      | (with_reducible exact ih1 _ _ _ _ _ _ _ _ _ _ _ _ _ _)
      | (with_reducible exact ih2 _ _ _ _ _ _ _ _ _ _ _ _ _ _)
      | (with_reducible exact LeO.refl _)
      | (with_reducible exact LeO.none _)
      | (with_reducible refine LeO.ite ?_ ?_)
      | (with_reducible refine LeO.bind ?_ (fun _ => ?_))
      | exact ih0 _ _ _ _ _ _ _ _ _ _ _ _ _ _
      | exact ih1 _ _ _ _ _ _ _ _ _ _ _ _ _ _
      | exact ih2 _ _ _ _ _ _ _ _ _ _ _ _ _ _
      | exact LeO.none _
      | refine LeO.ite ?_ ?_
      | refine LeO.bind ?_ (fun _ => ?_)
set_option maxHeartbeats 8000000 in
set_option maxRecDepth 100000 in
theorem zonemap_Check.calls (k : Nat) (a0_0 : Int) (a0_1 : Int) (a0_2 : Int) (a0_3 : Int) (a0_4 : Int) (a0_5 : Int) (a0_6 : Int) (a0_7 : Int) (a0_8 : Int) (a0_9 : Int) (a0_10 : Int) (a0_11 : Int) (a0_12 : Int) (r : Int) (w : World) (h : zonemap_Check.f k a0_0 a0_1 a0_2 a0_3 a0_4 a0_5 a0_6 a0_7 a0_8 a0_9 a0_10 a0_11 a0_12 = some r) :
    Calls Try.prog 13 #[.agg #[.int .i64 a0_0, .int .i64 a0_1, .int .i64 a0_2, .int .i64 a0_3, .int .i64 a0_4, .int .u32 a0_5, .int .u32 a0_6, .int .u32 a0_7, .int .u32 a0_8, .int .u32 a0_9, .int .u32 a0_10, .int .u32 a0_11, .int .u32 a0_12]] w fun e w' => e = .returned (.int .i64 r) ∧ Below w.heap.size w w' := by
  have hu25 := Try.underlying25
  have HB := Aside0.mk (Below.refl w.heap.size w)
  have H : (if a0_0 < 0 then (zonemap_Check.j0 k true a0_0 a0_1 a0_2 a0_3 a0_4 a0_5 a0_6 a0_7 a0_8 a0_9 a0_10 a0_11 a0_12) else (zonemap_Check.j0 k (decide (a0_0 > 1152921504606846976)) a0_0 a0_1 a0_2 a0_3 a0_4 a0_5 a0_6 a0_7 a0_8 a0_9 a0_10 a0_11 a0_12)) = some r := h
  clear h
  have HC2 := Aside0.mk H
  clear H
  go_enter Try.func13, Try.ntmps13
  go_upto_region 1 with (first | ((with_reducible refine gate_dst (N := 1) rfl ?_); refine box_event ?hg (N := 1) ?hd (cs := #[.int .i64 a0_0, .int .i64 a0_1, .int .i64 a0_2, .int .i64 a0_3, .int .i64 a0_4, .int .u32 a0_5, .int .u32 a0_6, .int .u32 a0_7, .int .u32 a0_8, .int .u32 a0_9, .int .u32 a0_10, .int .u32 a0_11, .int .u32 a0_12]) (t := 25) ?hr ?_; (case hd => rfl); (case hg => rfl); (case hr => first | (go_simp; done) | (go_simp; rfl)); intro gb101 hg w3 hbox hb; have n0_ := Aside0.mk (below_step (by repeat (first | (with_reducible first | exact HB.out | apply below_alloc | apply pw_below_drewN | apply below_drew1) | exact HB.out)) hb); have n1_ := Aside0.mk (hbox); have n2_ := Aside0.mk ((by rw [hg]; exact (below_size (by repeat (first | (with_reducible first | exact HB.out | apply below_alloc | apply pw_below_drewN | apply below_drew1) | exact HB.out))) : w.heap.size ≤ gb101)); have n3_ := Aside0.mk ((by rw [hg]; exact (below_size (by repeat (first | (with_reducible first | exact HB.out | apply below_alloc | apply pw_below_drewN | apply below_drew1) | exact HB.out))) : w.heap.size ≤ gb101)); clear HB; have HB := n0_; have BK101 := n1_; have GW101 := n2_; have GE101 := n3_; clear n0_ n1_ n2_ n3_; clear hb hbox hg))
  (try simp only [Act.put, List.setIfInBounds_toArray, List.set_cons_zero, List.set_cons_succ])
  go_cut [10] (fun v10 wc => ∃ (kq : Nat) (x10_1 : Bool), v10 = .bool x10_1 ∧ Aside0 (zonemap_Check.j0 kq x10_1 a0_0 a0_1 a0_2 a0_3 a0_4 a0_5 a0_6 a0_7 a0_8 a0_9 a0_10 a0_11 a0_12 = some r) ∧ Aside0 (kq ≤ k) ∧ Aside0 (wc.heap[gb101]? = some (.cells #[.int .i64 a0_0, .int .i64 a0_1, .int .i64 a0_2, .int .i64 a0_3, .int .i64 a0_4, .int .u32 a0_5, .int .u32 a0_6, .int .u32 a0_7, .int .u32 a0_8, .int .u32 a0_9, .int .u32 a0_10, .int .u32 a0_11, .int .u32 a0_12] 25 (0, 0))) ∧ Aside0 (Below w.heap.size w wc))
  case first =>
    have H := HC2.out
    clear HC2
    by_cases c4 : a0_0 < 0
    · rw [if_pos c4] at H
      have c4b0 : decide (a0_0 < 0) = true := decide_eq_true c4
      clear c4
      (first | rw [c4b0] | (simp only [i64_w, i32_w]; rw [c4b0]) | rw [c4b1] | (simp only [i64_w, i32_w]; rw [c4b1]) | skip)
      have H' := Aside0.mk H
      clear H
      have hcz5_0 : w3.cell? ⟨gb101, 0, none⟩ = some (.int .i64 a0_0) := (blk_cell BK101.out 0).trans rfl
      have hcz5_1 : w3.cell? ⟨gb101, 1, none⟩ = some (.int .i64 a0_1) := (blk_cell BK101.out 1).trans rfl
      have hcz5_2 : w3.cell? ⟨gb101, 2, none⟩ = some (.int .i64 a0_2) := (blk_cell BK101.out 2).trans rfl
      have hcz5_3 : w3.cell? ⟨gb101, 3, none⟩ = some (.int .i64 a0_3) := (blk_cell BK101.out 3).trans rfl
      have hcz5_4 : w3.cell? ⟨gb101, 4, none⟩ = some (.int .i64 a0_4) := (blk_cell BK101.out 4).trans rfl
      have hcz5_5 : w3.cell? ⟨gb101, 5, none⟩ = some (.int .u32 a0_5) := (blk_cell BK101.out 5).trans rfl
      have hcz5_6 : w3.cell? ⟨gb101, 6, none⟩ = some (.int .u32 a0_6) := (blk_cell BK101.out 6).trans rfl
      have hcz5_7 : w3.cell? ⟨gb101, 7, none⟩ = some (.int .u32 a0_7) := (blk_cell BK101.out 7).trans rfl
      have hcz5_8 : w3.cell? ⟨gb101, 8, none⟩ = some (.int .u32 a0_8) := (blk_cell BK101.out 8).trans rfl
      have hcz5_9 : w3.cell? ⟨gb101, 9, none⟩ = some (.int .u32 a0_9) := (blk_cell BK101.out 9).trans rfl
      have hcz5_10 : w3.cell? ⟨gb101, 10, none⟩ = some (.int .u32 a0_10) := (blk_cell BK101.out 10).trans rfl
      have hcz5_11 : w3.cell? ⟨gb101, 11, none⟩ = some (.int .u32 a0_11) := (blk_cell BK101.out 11).trans rfl
      have hcz5_12 : w3.cell? ⟨gb101, 12, none⟩ = some (.int .u32 a0_12) := (blk_cell BK101.out 12).trans rfl
      have hfz5_0 := blk_frozen BK101.out 0
      have hfz5_1 := blk_frozen BK101.out 1
      have hfz5_2 := blk_frozen BK101.out 2
      have hfz5_3 := blk_frozen BK101.out 3
      have hfz5_4 := blk_frozen BK101.out 4
      have hfz5_5 := blk_frozen BK101.out 5
      have hfz5_6 := blk_frozen BK101.out 6
      have hfz5_7 := blk_frozen BK101.out 7
      have hfz5_8 := blk_frozen BK101.out 8
      have hfz5_9 := blk_frozen BK101.out 9
      have hfz5_10 := blk_frozen BK101.out 10
      have hfz5_11 := blk_frozen BK101.out 11
      have hfz5_12 := blk_frozen BK101.out 12
      go_wp2
      go_meet
      case rel => exact ⟨_, (true), (by first | rfl | (simp; done) | (simp [*]; done)), H', ⟨by first | omega | exact Nat.le_refl _⟩, ⟨by (with_reducible repeat (first | refine blk_drewN ?_ _ | refine blk_drew ?_ | refine blk_alloc ?_ _)); exact BK101.out⟩, ⟨by repeat (first | (with_reducible first | exact HB.out | apply below_alloc | apply pw_below_drewN | apply below_drew1 | refine below_set ?_ GE101.out) | exact HB.out)⟩⟩
    · rw [if_neg c4] at H
      have c4b0 : decide (a0_0 < 0) = false := decide_eq_false c4
      clear c4
      (first | rw [c4b0] | (simp only [i64_w, i32_w]; rw [c4b0]) | rw [c4b1] | (simp only [i64_w, i32_w]; rw [c4b1]) | skip)
      have H' := Aside0.mk H
      clear H
      have hcz6_0 : w3.cell? ⟨gb101, 0, none⟩ = some (.int .i64 a0_0) := (blk_cell BK101.out 0).trans rfl
      have hcz6_1 : w3.cell? ⟨gb101, 1, none⟩ = some (.int .i64 a0_1) := (blk_cell BK101.out 1).trans rfl
      have hcz6_2 : w3.cell? ⟨gb101, 2, none⟩ = some (.int .i64 a0_2) := (blk_cell BK101.out 2).trans rfl
      have hcz6_3 : w3.cell? ⟨gb101, 3, none⟩ = some (.int .i64 a0_3) := (blk_cell BK101.out 3).trans rfl
      have hcz6_4 : w3.cell? ⟨gb101, 4, none⟩ = some (.int .i64 a0_4) := (blk_cell BK101.out 4).trans rfl
      have hcz6_5 : w3.cell? ⟨gb101, 5, none⟩ = some (.int .u32 a0_5) := (blk_cell BK101.out 5).trans rfl
      have hcz6_6 : w3.cell? ⟨gb101, 6, none⟩ = some (.int .u32 a0_6) := (blk_cell BK101.out 6).trans rfl
      have hcz6_7 : w3.cell? ⟨gb101, 7, none⟩ = some (.int .u32 a0_7) := (blk_cell BK101.out 7).trans rfl
      have hcz6_8 : w3.cell? ⟨gb101, 8, none⟩ = some (.int .u32 a0_8) := (blk_cell BK101.out 8).trans rfl
      have hcz6_9 : w3.cell? ⟨gb101, 9, none⟩ = some (.int .u32 a0_9) := (blk_cell BK101.out 9).trans rfl
      have hcz6_10 : w3.cell? ⟨gb101, 10, none⟩ = some (.int .u32 a0_10) := (blk_cell BK101.out 10).trans rfl
      have hcz6_11 : w3.cell? ⟨gb101, 11, none⟩ = some (.int .u32 a0_11) := (blk_cell BK101.out 11).trans rfl
      have hcz6_12 : w3.cell? ⟨gb101, 12, none⟩ = some (.int .u32 a0_12) := (blk_cell BK101.out 12).trans rfl
      have hfz6_0 := blk_frozen BK101.out 0
      have hfz6_1 := blk_frozen BK101.out 1
      have hfz6_2 := blk_frozen BK101.out 2
      have hfz6_3 := blk_frozen BK101.out 3
      have hfz6_4 := blk_frozen BK101.out 4
      have hfz6_5 := blk_frozen BK101.out 5
      have hfz6_6 := blk_frozen BK101.out 6
      have hfz6_7 := blk_frozen BK101.out 7
      have hfz6_8 := blk_frozen BK101.out 8
      have hfz6_9 := blk_frozen BK101.out 9
      have hfz6_10 := blk_frozen BK101.out 10
      have hfz6_11 := blk_frozen BK101.out 11
      have hfz6_12 := blk_frozen BK101.out 12
      go_wp2
      go_meet
      case rel => exact ⟨_, (decide (a0_0 > 1152921504606846976)), (by first | rfl | (simp; done) | (simp [*]; done)), H', ⟨by first | omega | exact Nat.le_refl _⟩, ⟨by (with_reducible repeat (first | refine blk_drewN ?_ _ | refine blk_drew ?_ | refine blk_alloc ?_ _)); exact BK101.out⟩, ⟨by repeat (first | (with_reducible first | exact HB.out | apply below_alloc | apply pw_below_drewN | apply below_drew1 | refine below_set ?_ GE101.out) | exact HB.out)⟩⟩
  case rest =>
    clear HC2
    try clear c1
    try clear p2
    try clear c4
    try clear c4b0
    try clear c4b1
    try clear hcz5_0
    try clear hcz5_1
    try clear hcz5_10
    try clear hcz5_11
    try clear hcz5_12
    try clear hcz5_2
    try clear hcz5_3
    try clear hcz5_4
    try clear hcz5_5
    try clear hcz5_6
    try clear hcz5_7
    try clear hcz5_8
    try clear hcz5_9
    try clear hcz6_0
    try clear hcz6_1
    try clear hcz6_10
    try clear hcz6_11
    try clear hcz6_12
    try clear hcz6_2
    try clear hcz6_3
    try clear hcz6_4
    try clear hcz6_5
    try clear hcz6_6
    try clear hcz6_7
    try clear hcz6_8
    try clear hcz6_9
    try clear hfz5_0
    try clear hfz5_1
    try clear hfz5_10
    try clear hfz5_11
    try clear hfz5_12
    try clear hfz5_2
    try clear hfz5_3
    try clear hfz5_4
    try clear hfz5_5
    try clear hfz5_6
    try clear hfz5_7
    try clear hfz5_8
    try clear hfz5_9
    try clear hfz6_0
    try clear hfz6_1
    try clear hfz6_10
    try clear hfz6_11
    try clear hfz6_12
    try clear hfz6_2
    try clear hfz6_3
    try clear hfz6_4
    try clear hfz6_5
    try clear hfz6_6
    try clear hfz6_7
    try clear hfz6_8
    try clear hfz6_9
    obtain ⟨kq, x10_1, rfl, HA, HJ1, BK101, HB⟩ := hcut
    cases kq with
    | zero => exact absurd HA.out (by simp [zonemap_Check.j0])
    | succ kj1 =>
      have H := HA.out
      clear HA
      simp only [zonemap_Check.j0] at H
      by_cases c7 : x10_1 = true
      · subst c7
        have H1 : (some 2) = some r := by rw [if_pos rfl] at H; exact H
        clear H
        have H := H1
        clear H1
        obtain rfl := Option.some.inj H
        go_wp2
        go_ret
        exact ⟨by first | rfl | (simp [errW_none, errW_some] <;> rfl) | (simp [*, errW_none, errW_some] <;> rfl), by repeat (first | (with_reducible first | exact HB.out | apply below_alloc | apply pw_below_drewN | apply below_drew1 | refine below_set ?_ GE101.out) | exact HB.out)⟩
      · replace c7 := Bool.eq_false_iff.mpr c7
        subst c7
        have H1 : (if a0_0 = 0 then (if (!(a0_0 == 0) || (!(a0_1 == 0) || (!(a0_2 == 0) || (!(a0_3 == 0) || (!(a0_4 == 0) || ((!(a0_5 == 0) || (!(a0_6 == 0) || (!(a0_7 == 0) || (!(a0_8 == 0) || (!(a0_9 == 0) || (!(a0_10 == 0) || (!(a0_11 == 0) || (!(a0_12 == 0))))))))))))))) = true then (some 10) else (some 0)) else ((zonemap_isTime.f a0_1).bind fun t102 => (if t102 = true then ((zonemap_isTime.f a0_2).bind fun t103 => (zonemap_Check.j1 kj1 (!t103) a0_0 a0_1 a0_2 a0_3 a0_4 a0_5 a0_6 a0_7 a0_8 a0_9 a0_10 a0_11 a0_12)) else (zonemap_Check.j1 kj1 true a0_0 a0_1 a0_2 a0_3 a0_4 a0_5 a0_6 a0_7 a0_8 a0_9 a0_10 a0_11 a0_12)))) = some r := by rw [if_neg (show ¬ (false = true) by decide)] at H; exact H
        clear H
        have H := H1
        clear H1
        by_cases c8 : a0_0 = 0
        · rw [if_pos c8] at H
          have c8b0 : (a0_0 == 0) = true := beq_iff_eq.mpr c8
          have c8b1 : (a0_0 != 0) = false := bne_eq_false_iff_eq.mpr c8
          clear c8
          by_cases c9 : (!(a0_0 == 0) || (!(a0_1 == 0) || (!(a0_2 == 0) || (!(a0_3 == 0) || (!(a0_4 == 0) || ((!(a0_5 == 0) || (!(a0_6 == 0) || (!(a0_7 == 0) || (!(a0_8 == 0) || (!(a0_9 == 0) || (!(a0_10 == 0) || (!(a0_11 == 0) || (!(a0_12 == 0))))))))))))))) = true
          · rw [if_pos c9] at H
            have c9b0 : (!(a0_0 == 0) || (!(a0_1 == 0) || (!(a0_2 == 0) || (!(a0_3 == 0) || (!(a0_4 == 0) || ((!(a0_5 == 0) || (!(a0_6 == 0) || (!(a0_7 == 0) || (!(a0_8 == 0) || (!(a0_9 == 0) || (!(a0_10 == 0) || (!(a0_11 == 0) || (!(a0_12 == 0))))))))))))))) = true := c9
            try have c9b0_ := by have h := c9b0; simp only [c8b0, Bool.not_true, Bool.not_false, Bool.false_or, Bool.true_and] at h; exact h
            clear c9
            obtain rfl := Option.some.inj H
            have hcz10_0 : wc.cell? ⟨gb101, 0, none⟩ = some (.int .i64 a0_0) := (blk_cell BK101.out 0).trans rfl
            have hcz10_1 : wc.cell? ⟨gb101, 1, none⟩ = some (.int .i64 a0_1) := (blk_cell BK101.out 1).trans rfl
            have hcz10_2 : wc.cell? ⟨gb101, 2, none⟩ = some (.int .i64 a0_2) := (blk_cell BK101.out 2).trans rfl
            have hcz10_3 : wc.cell? ⟨gb101, 3, none⟩ = some (.int .i64 a0_3) := (blk_cell BK101.out 3).trans rfl
            have hcz10_4 : wc.cell? ⟨gb101, 4, none⟩ = some (.int .i64 a0_4) := (blk_cell BK101.out 4).trans rfl
            have hcz10_5 : wc.cell? ⟨gb101, 5, none⟩ = some (.int .u32 a0_5) := (blk_cell BK101.out 5).trans rfl
            have hcz10_6 : wc.cell? ⟨gb101, 6, none⟩ = some (.int .u32 a0_6) := (blk_cell BK101.out 6).trans rfl
            have hcz10_7 : wc.cell? ⟨gb101, 7, none⟩ = some (.int .u32 a0_7) := (blk_cell BK101.out 7).trans rfl
            have hcz10_8 : wc.cell? ⟨gb101, 8, none⟩ = some (.int .u32 a0_8) := (blk_cell BK101.out 8).trans rfl
            have hcz10_9 : wc.cell? ⟨gb101, 9, none⟩ = some (.int .u32 a0_9) := (blk_cell BK101.out 9).trans rfl
            have hcz10_10 : wc.cell? ⟨gb101, 10, none⟩ = some (.int .u32 a0_10) := (blk_cell BK101.out 10).trans rfl
            have hcz10_11 : wc.cell? ⟨gb101, 11, none⟩ = some (.int .u32 a0_11) := (blk_cell BK101.out 11).trans rfl
            have hcz10_12 : wc.cell? ⟨gb101, 12, none⟩ = some (.int .u32 a0_12) := (blk_cell BK101.out 12).trans rfl
            have hfz10_0 := blk_frozen BK101.out 0
            have hfz10_1 := blk_frozen BK101.out 1
            have hfz10_2 := blk_frozen BK101.out 2
            have hfz10_3 := blk_frozen BK101.out 3
            have hfz10_4 := blk_frozen BK101.out 4
            have hfz10_5 := blk_frozen BK101.out 5
            have hfz10_6 := blk_frozen BK101.out 6
            have hfz10_7 := blk_frozen BK101.out 7
            have hfz10_8 := blk_frozen BK101.out 8
            have hfz10_9 := blk_frozen BK101.out 9
            have hfz10_10 := blk_frozen BK101.out 10
            have hfz10_11 := blk_frozen BK101.out 11
            have hfz10_12 := blk_frozen BK101.out 12
            go_wp2
            go_ret
            exact ⟨by first | rfl | (simp [errW_none, errW_some] <;> rfl) | (simp [*, errW_none, errW_some] <;> rfl), by repeat (first | (with_reducible first | exact HB.out | apply below_alloc | apply pw_below_drewN | apply below_drew1 | refine below_set ?_ GE101.out) | exact HB.out)⟩
          · rw [if_neg c9] at H
            have c9b0 : (!(a0_0 == 0) || (!(a0_1 == 0) || (!(a0_2 == 0) || (!(a0_3 == 0) || (!(a0_4 == 0) || ((!(a0_5 == 0) || (!(a0_6 == 0) || (!(a0_7 == 0) || (!(a0_8 == 0) || (!(a0_9 == 0) || (!(a0_10 == 0) || (!(a0_11 == 0) || (!(a0_12 == 0))))))))))))))) = false := by simpa using c9
            try have c9b0_ := by have h := c9b0; simp only [c8b0, Bool.not_true, Bool.not_false, Bool.false_or, Bool.true_and] at h; exact h
            clear c9
            obtain rfl := Option.some.inj H
            have hcz11_0 : wc.cell? ⟨gb101, 0, none⟩ = some (.int .i64 a0_0) := (blk_cell BK101.out 0).trans rfl
            have hcz11_1 : wc.cell? ⟨gb101, 1, none⟩ = some (.int .i64 a0_1) := (blk_cell BK101.out 1).trans rfl
            have hcz11_2 : wc.cell? ⟨gb101, 2, none⟩ = some (.int .i64 a0_2) := (blk_cell BK101.out 2).trans rfl
            have hcz11_3 : wc.cell? ⟨gb101, 3, none⟩ = some (.int .i64 a0_3) := (blk_cell BK101.out 3).trans rfl
            have hcz11_4 : wc.cell? ⟨gb101, 4, none⟩ = some (.int .i64 a0_4) := (blk_cell BK101.out 4).trans rfl
            have hcz11_5 : wc.cell? ⟨gb101, 5, none⟩ = some (.int .u32 a0_5) := (blk_cell BK101.out 5).trans rfl
            have hcz11_6 : wc.cell? ⟨gb101, 6, none⟩ = some (.int .u32 a0_6) := (blk_cell BK101.out 6).trans rfl
            have hcz11_7 : wc.cell? ⟨gb101, 7, none⟩ = some (.int .u32 a0_7) := (blk_cell BK101.out 7).trans rfl
            have hcz11_8 : wc.cell? ⟨gb101, 8, none⟩ = some (.int .u32 a0_8) := (blk_cell BK101.out 8).trans rfl
            have hcz11_9 : wc.cell? ⟨gb101, 9, none⟩ = some (.int .u32 a0_9) := (blk_cell BK101.out 9).trans rfl
            have hcz11_10 : wc.cell? ⟨gb101, 10, none⟩ = some (.int .u32 a0_10) := (blk_cell BK101.out 10).trans rfl
            have hcz11_11 : wc.cell? ⟨gb101, 11, none⟩ = some (.int .u32 a0_11) := (blk_cell BK101.out 11).trans rfl
            have hcz11_12 : wc.cell? ⟨gb101, 12, none⟩ = some (.int .u32 a0_12) := (blk_cell BK101.out 12).trans rfl
            have hfz11_0 := blk_frozen BK101.out 0
            have hfz11_1 := blk_frozen BK101.out 1
            have hfz11_2 := blk_frozen BK101.out 2
            have hfz11_3 := blk_frozen BK101.out 3
            have hfz11_4 := blk_frozen BK101.out 4
            have hfz11_5 := blk_frozen BK101.out 5
            have hfz11_6 := blk_frozen BK101.out 6
            have hfz11_7 := blk_frozen BK101.out 7
            have hfz11_8 := blk_frozen BK101.out 8
            have hfz11_9 := blk_frozen BK101.out 9
            have hfz11_10 := blk_frozen BK101.out 10
            have hfz11_11 := blk_frozen BK101.out 11
            have hfz11_12 := blk_frozen BK101.out 12
            go_wp2
            go_ret
            exact ⟨by first | rfl | (simp [errW_none, errW_some] <;> rfl) | (simp [*, errW_none, errW_some] <;> rfl), by repeat (first | (with_reducible first | exact HB.out | apply below_alloc | apply pw_below_drewN | apply below_drew1 | refine below_set ?_ GE101.out) | exact HB.out)⟩
        · rw [if_neg c8] at H
          have c8b0 : (a0_0 == 0) = false := beq_eq_false_iff_ne.mpr c8
          have c8b1 : (a0_0 != 0) = true := bne_iff_ne.mpr c8
          have HC12 := Aside0.mk H
          clear H
          have hcz13_0 : wc.cell? ⟨gb101, 0, none⟩ = some (.int .i64 a0_0) := (blk_cell BK101.out 0).trans rfl
          have hcz13_1 : wc.cell? ⟨gb101, 1, none⟩ = some (.int .i64 a0_1) := (blk_cell BK101.out 1).trans rfl
          have hcz13_2 : wc.cell? ⟨gb101, 2, none⟩ = some (.int .i64 a0_2) := (blk_cell BK101.out 2).trans rfl
          have hcz13_3 : wc.cell? ⟨gb101, 3, none⟩ = some (.int .i64 a0_3) := (blk_cell BK101.out 3).trans rfl
          have hcz13_4 : wc.cell? ⟨gb101, 4, none⟩ = some (.int .i64 a0_4) := (blk_cell BK101.out 4).trans rfl
          have hcz13_5 : wc.cell? ⟨gb101, 5, none⟩ = some (.int .u32 a0_5) := (blk_cell BK101.out 5).trans rfl
          have hcz13_6 : wc.cell? ⟨gb101, 6, none⟩ = some (.int .u32 a0_6) := (blk_cell BK101.out 6).trans rfl
          have hcz13_7 : wc.cell? ⟨gb101, 7, none⟩ = some (.int .u32 a0_7) := (blk_cell BK101.out 7).trans rfl
          have hcz13_8 : wc.cell? ⟨gb101, 8, none⟩ = some (.int .u32 a0_8) := (blk_cell BK101.out 8).trans rfl
          have hcz13_9 : wc.cell? ⟨gb101, 9, none⟩ = some (.int .u32 a0_9) := (blk_cell BK101.out 9).trans rfl
          have hcz13_10 : wc.cell? ⟨gb101, 10, none⟩ = some (.int .u32 a0_10) := (blk_cell BK101.out 10).trans rfl
          have hcz13_11 : wc.cell? ⟨gb101, 11, none⟩ = some (.int .u32 a0_11) := (blk_cell BK101.out 11).trans rfl
          have hcz13_12 : wc.cell? ⟨gb101, 12, none⟩ = some (.int .u32 a0_12) := (blk_cell BK101.out 12).trans rfl
          have hfz13_0 := blk_frozen BK101.out 0
          have hfz13_1 := blk_frozen BK101.out 1
          have hfz13_2 := blk_frozen BK101.out 2
          have hfz13_3 := blk_frozen BK101.out 3
          have hfz13_4 := blk_frozen BK101.out 4
          have hfz13_5 := blk_frozen BK101.out 5
          have hfz13_6 := blk_frozen BK101.out 6
          have hfz13_7 := blk_frozen BK101.out 7
          have hfz13_8 := blk_frozen BK101.out 8
          have hfz13_9 := blk_frozen BK101.out 9
          have hfz13_10 := blk_frozen BK101.out 10
          have hfz13_11 := blk_frozen BK101.out 11
          have hfz13_12 := blk_frozen BK101.out 12
          go_upto_region 7 with (fail)
          go_cut [26] (fun v26 wc => ∃ (kq : Nat) (x26_11 : Bool), v26 = .bool x26_11 ∧ Aside0 (zonemap_Check.j1 kq x26_11 a0_0 a0_1 a0_2 a0_3 a0_4 a0_5 a0_6 a0_7 a0_8 a0_9 a0_10 a0_11 a0_12 = some r) ∧ Aside0 (kq ≤ kj1) ∧ Aside0 (wc.heap[gb101]? = some (.cells #[.int .i64 a0_0, .int .i64 a0_1, .int .i64 a0_2, .int .i64 a0_3, .int .i64 a0_4, .int .u32 a0_5, .int .u32 a0_6, .int .u32 a0_7, .int .u32 a0_8, .int .u32 a0_9, .int .u32 a0_10, .int .u32 a0_11, .int .u32 a0_12] 25 (0, 0))) ∧ Aside0 (Below w.heap.size w wc))
          case first =>
            have H := HC12.out
            clear HC12
            replace H := Option.bind_eq_some_iff.mp H
            obtain ⟨t102, A140, H⟩ := H
            replace H : (if t102 = true then ((zonemap_isTime.f a0_2).bind fun t103 => (zonemap_Check.j1 kj1 (!t103) a0_0 a0_1 a0_2 a0_3 a0_4 a0_5 a0_6 a0_7 a0_8 a0_9 a0_10 a0_11 a0_12)) else (zonemap_Check.j1 kj1 true a0_0 a0_1 a0_2 a0_3 a0_4 a0_5 a0_6 a0_7 a0_8 a0_9 a0_10 a0_11 a0_12)) = some r := H
            have A14 := Aside0.mk A140
            clear A140
            by_cases c15 : t102 = true
            · subst c15
              have H1 : ((zonemap_isTime.f a0_2).bind fun t103 => (zonemap_Check.j1 kj1 (!t103) a0_0 a0_1 a0_2 a0_3 a0_4 a0_5 a0_6 a0_7 a0_8 a0_9 a0_10 a0_11 a0_12)) = some r := by rw [if_pos rfl] at H; exact H
              clear H
              have H := H1
              clear H1
              replace H := Option.bind_eq_some_iff.mp H
              obtain ⟨t103, A160, H⟩ := H
              replace H : (zonemap_Check.j1 kj1 (!t103) a0_0 a0_1 a0_2 a0_3 a0_4 a0_5 a0_6 a0_7 a0_8 a0_9 a0_10 a0_11 a0_12) = some r := H
              have A16 := Aside0.mk A160
              clear A160
              have H' := Aside0.mk H
              clear H
              have hcz17_0 : wc.cell? ⟨gb101, 0, none⟩ = some (.int .i64 a0_0) := (blk_cell BK101.out 0).trans rfl
              have hcz17_1 : wc.cell? ⟨gb101, 1, none⟩ = some (.int .i64 a0_1) := (blk_cell BK101.out 1).trans rfl
              have hcz17_2 : wc.cell? ⟨gb101, 2, none⟩ = some (.int .i64 a0_2) := (blk_cell BK101.out 2).trans rfl
              have hcz17_3 : wc.cell? ⟨gb101, 3, none⟩ = some (.int .i64 a0_3) := (blk_cell BK101.out 3).trans rfl
              have hcz17_4 : wc.cell? ⟨gb101, 4, none⟩ = some (.int .i64 a0_4) := (blk_cell BK101.out 4).trans rfl
              have hcz17_5 : wc.cell? ⟨gb101, 5, none⟩ = some (.int .u32 a0_5) := (blk_cell BK101.out 5).trans rfl
              have hcz17_6 : wc.cell? ⟨gb101, 6, none⟩ = some (.int .u32 a0_6) := (blk_cell BK101.out 6).trans rfl
              have hcz17_7 : wc.cell? ⟨gb101, 7, none⟩ = some (.int .u32 a0_7) := (blk_cell BK101.out 7).trans rfl
              have hcz17_8 : wc.cell? ⟨gb101, 8, none⟩ = some (.int .u32 a0_8) := (blk_cell BK101.out 8).trans rfl
              have hcz17_9 : wc.cell? ⟨gb101, 9, none⟩ = some (.int .u32 a0_9) := (blk_cell BK101.out 9).trans rfl
              have hcz17_10 : wc.cell? ⟨gb101, 10, none⟩ = some (.int .u32 a0_10) := (blk_cell BK101.out 10).trans rfl
              have hcz17_11 : wc.cell? ⟨gb101, 11, none⟩ = some (.int .u32 a0_11) := (blk_cell BK101.out 11).trans rfl
              have hcz17_12 : wc.cell? ⟨gb101, 12, none⟩ = some (.int .u32 a0_12) := (blk_cell BK101.out 12).trans rfl
              have hfz17_0 := blk_frozen BK101.out 0
              have hfz17_1 := blk_frozen BK101.out 1
              have hfz17_2 := blk_frozen BK101.out 2
              have hfz17_3 := blk_frozen BK101.out 3
              have hfz17_4 := blk_frozen BK101.out 4
              have hfz17_5 := blk_frozen BK101.out 5
              have hfz17_6 := blk_frozen BK101.out 6
              have hfz17_7 := blk_frozen BK101.out 7
              have hfz17_8 := blk_frozen BK101.out 8
              have hfz17_9 := blk_frozen BK101.out 9
              have hfz17_10 := blk_frozen BK101.out 10
              have hfz17_11 := blk_frozen BK101.out 11
              have hfz17_12 := blk_frozen BK101.out 12
              go_wp2_with (first | ((with_reducible refine gate_callee (f := 34) rfl ?_); refine goesL_ (some 19) rfl rfl Try.func34 (by kernel_rfl) rfl #[.int .i64 a0_1] rfl (by (try simp only [List.map_toArray, List.map_cons, List.map_nil]); first | done | rfl | (simp only [List.length_drop, List.length_take]; rfl)) ?_; (with_reducible refine (zonemap_isTime.calls a0_1 true _ A14.out).mono ?_); rintro e w' ⟨rfl, ⟨nd, rfl⟩⟩; refine ⟨_, rfl, ?_⟩) | (go_at_call 34; (with_reducible refine (zonemap_isTime.calls a0_2 t103 _ A16.out).mono ?_); rintro e w' ⟨rfl, ⟨nd, rfl⟩⟩))
              go_meet
              case rel => exact ⟨_, (!t103), (by first | rfl | (simp; done) | (simp [*]; done)), H', ⟨by have := HJ1.out; first | omega | exact Nat.le_refl _⟩, ⟨by (with_reducible repeat (first | refine blk_drewN ?_ _ | refine blk_drew ?_ | refine blk_alloc ?_ _)); exact BK101.out⟩, ⟨by repeat (first | (with_reducible first | exact HB.out | apply below_alloc | apply pw_below_drewN | apply below_drew1 | refine below_set ?_ GE101.out) | exact HB.out)⟩⟩
            · replace c15 := Bool.eq_false_iff.mpr c15
              subst c15
              have H1 : (zonemap_Check.j1 kj1 true a0_0 a0_1 a0_2 a0_3 a0_4 a0_5 a0_6 a0_7 a0_8 a0_9 a0_10 a0_11 a0_12) = some r := by rw [if_neg (show ¬ (false = true) by decide)] at H; exact H
              clear H
              have H := H1
              clear H1
              have H' := Aside0.mk H
              clear H
              have hcz18_0 : wc.cell? ⟨gb101, 0, none⟩ = some (.int .i64 a0_0) := (blk_cell BK101.out 0).trans rfl
              have hcz18_1 : wc.cell? ⟨gb101, 1, none⟩ = some (.int .i64 a0_1) := (blk_cell BK101.out 1).trans rfl
              have hcz18_2 : wc.cell? ⟨gb101, 2, none⟩ = some (.int .i64 a0_2) := (blk_cell BK101.out 2).trans rfl
              have hcz18_3 : wc.cell? ⟨gb101, 3, none⟩ = some (.int .i64 a0_3) := (blk_cell BK101.out 3).trans rfl
              have hcz18_4 : wc.cell? ⟨gb101, 4, none⟩ = some (.int .i64 a0_4) := (blk_cell BK101.out 4).trans rfl
              have hcz18_5 : wc.cell? ⟨gb101, 5, none⟩ = some (.int .u32 a0_5) := (blk_cell BK101.out 5).trans rfl
              have hcz18_6 : wc.cell? ⟨gb101, 6, none⟩ = some (.int .u32 a0_6) := (blk_cell BK101.out 6).trans rfl
              have hcz18_7 : wc.cell? ⟨gb101, 7, none⟩ = some (.int .u32 a0_7) := (blk_cell BK101.out 7).trans rfl
              have hcz18_8 : wc.cell? ⟨gb101, 8, none⟩ = some (.int .u32 a0_8) := (blk_cell BK101.out 8).trans rfl
              have hcz18_9 : wc.cell? ⟨gb101, 9, none⟩ = some (.int .u32 a0_9) := (blk_cell BK101.out 9).trans rfl
              have hcz18_10 : wc.cell? ⟨gb101, 10, none⟩ = some (.int .u32 a0_10) := (blk_cell BK101.out 10).trans rfl
              have hcz18_11 : wc.cell? ⟨gb101, 11, none⟩ = some (.int .u32 a0_11) := (blk_cell BK101.out 11).trans rfl
              have hcz18_12 : wc.cell? ⟨gb101, 12, none⟩ = some (.int .u32 a0_12) := (blk_cell BK101.out 12).trans rfl
              have hfz18_0 := blk_frozen BK101.out 0
              have hfz18_1 := blk_frozen BK101.out 1
              have hfz18_2 := blk_frozen BK101.out 2
              have hfz18_3 := blk_frozen BK101.out 3
              have hfz18_4 := blk_frozen BK101.out 4
              have hfz18_5 := blk_frozen BK101.out 5
              have hfz18_6 := blk_frozen BK101.out 6
              have hfz18_7 := blk_frozen BK101.out 7
              have hfz18_8 := blk_frozen BK101.out 8
              have hfz18_9 := blk_frozen BK101.out 9
              have hfz18_10 := blk_frozen BK101.out 10
              have hfz18_11 := blk_frozen BK101.out 11
              have hfz18_12 := blk_frozen BK101.out 12
              go_wp2_with (first | ((with_reducible refine gate_callee (f := 34) rfl ?_); refine goesL_ (some 19) rfl rfl Try.func34 (by kernel_rfl) rfl #[.int .i64 a0_1] rfl (by (try simp only [List.map_toArray, List.map_cons, List.map_nil]); first | done | rfl | (simp only [List.length_drop, List.length_take]; rfl)) ?_; (with_reducible refine (zonemap_isTime.calls a0_1 false _ A14.out).mono ?_); rintro e w' ⟨rfl, ⟨nd, rfl⟩⟩; refine ⟨_, rfl, ?_⟩))
              go_meet
              case rel => exact ⟨_, (true), (by first | rfl | (simp; done) | (simp [*]; done)), H', ⟨by have := HJ1.out; first | omega | exact Nat.le_refl _⟩, ⟨by (with_reducible repeat (first | refine blk_drewN ?_ _ | refine blk_drew ?_ | refine blk_alloc ?_ _)); exact BK101.out⟩, ⟨by repeat (first | (with_reducible first | exact HB.out | apply below_alloc | apply pw_below_drewN | apply below_drew1 | refine below_set ?_ GE101.out) | exact HB.out)⟩⟩
          case rest =>
            clear HC12
            try clear c1
            try clear p2
            try clear c3
            try clear c4
            try clear c4b0
            try clear c4b1
            try clear c7
            try clear c8
            try clear c8b0
            try clear c8b1
            try clear c9
            try clear c9b0
            try clear c13
            try clear c15
            try clear hcz10_0
            try clear hcz10_1
            try clear hcz10_10
            try clear hcz10_11
            try clear hcz10_12
            try clear hcz10_2
            try clear hcz10_3
            try clear hcz10_4
            try clear hcz10_5
            try clear hcz10_6
            try clear hcz10_7
            try clear hcz10_8
            try clear hcz10_9
            try clear hcz11_0
            try clear hcz11_1
            try clear hcz11_10
            try clear hcz11_11
            try clear hcz11_12
            try clear hcz11_2
            try clear hcz11_3
            try clear hcz11_4
            try clear hcz11_5
            try clear hcz11_6
            try clear hcz11_7
            try clear hcz11_8
            try clear hcz11_9
            try clear hcz13_0
            try clear hcz13_1
            try clear hcz13_10
            try clear hcz13_11
            try clear hcz13_12
            try clear hcz13_2
            try clear hcz13_3
            try clear hcz13_4
            try clear hcz13_5
            try clear hcz13_6
            try clear hcz13_7
            try clear hcz13_8
            try clear hcz13_9
            try clear hcz17_0
            try clear hcz17_1
            try clear hcz17_10
            try clear hcz17_11
            try clear hcz17_12
            try clear hcz17_2
            try clear hcz17_3
            try clear hcz17_4
            try clear hcz17_5
            try clear hcz17_6
            try clear hcz17_7
            try clear hcz17_8
            try clear hcz17_9
            try clear hcz18_0
            try clear hcz18_1
            try clear hcz18_10
            try clear hcz18_11
            try clear hcz18_12
            try clear hcz18_2
            try clear hcz18_3
            try clear hcz18_4
            try clear hcz18_5
            try clear hcz18_6
            try clear hcz18_7
            try clear hcz18_8
            try clear hcz18_9
            try clear hcz5_0
            try clear hcz5_1
            try clear hcz5_10
            try clear hcz5_11
            try clear hcz5_12
            try clear hcz5_2
            try clear hcz5_3
            try clear hcz5_4
            try clear hcz5_5
            try clear hcz5_6
            try clear hcz5_7
            try clear hcz5_8
            try clear hcz5_9
            try clear hcz6_0
            try clear hcz6_1
            try clear hcz6_10
            try clear hcz6_11
            try clear hcz6_12
            try clear hcz6_2
            try clear hcz6_3
            try clear hcz6_4
            try clear hcz6_5
            try clear hcz6_6
            try clear hcz6_7
            try clear hcz6_8
            try clear hcz6_9
            try clear hfz10_0
            try clear hfz10_1
            try clear hfz10_10
            try clear hfz10_11
            try clear hfz10_12
            try clear hfz10_2
            try clear hfz10_3
            try clear hfz10_4
            try clear hfz10_5
            try clear hfz10_6
            try clear hfz10_7
            try clear hfz10_8
            try clear hfz10_9
            try clear hfz11_0
            try clear hfz11_1
            try clear hfz11_10
            try clear hfz11_11
            try clear hfz11_12
            try clear hfz11_2
            try clear hfz11_3
            try clear hfz11_4
            try clear hfz11_5
            try clear hfz11_6
            try clear hfz11_7
            try clear hfz11_8
            try clear hfz11_9
            try clear hfz13_0
            try clear hfz13_1
            try clear hfz13_10
            try clear hfz13_11
            try clear hfz13_12
            try clear hfz13_2
            try clear hfz13_3
            try clear hfz13_4
            try clear hfz13_5
            try clear hfz13_6
            try clear hfz13_7
            try clear hfz13_8
            try clear hfz13_9
            try clear hfz17_0
            try clear hfz17_1
            try clear hfz17_10
            try clear hfz17_11
            try clear hfz17_12
            try clear hfz17_2
            try clear hfz17_3
            try clear hfz17_4
            try clear hfz17_5
            try clear hfz17_6
            try clear hfz17_7
            try clear hfz17_8
            try clear hfz17_9
            try clear hfz18_0
            try clear hfz18_1
            try clear hfz18_10
            try clear hfz18_11
            try clear hfz18_12
            try clear hfz18_2
            try clear hfz18_3
            try clear hfz18_4
            try clear hfz18_5
            try clear hfz18_6
            try clear hfz18_7
            try clear hfz18_8
            try clear hfz18_9
            try clear hfz5_0
            try clear hfz5_1
            try clear hfz5_10
            try clear hfz5_11
            try clear hfz5_12
            try clear hfz5_2
            try clear hfz5_3
            try clear hfz5_4
            try clear hfz5_5
            try clear hfz5_6
            try clear hfz5_7
            try clear hfz5_8
            try clear hfz5_9
            try clear hfz6_0
            try clear hfz6_1
            try clear hfz6_10
            try clear hfz6_11
            try clear hfz6_12
            try clear hfz6_2
            try clear hfz6_3
            try clear hfz6_4
            try clear hfz6_5
            try clear hfz6_6
            try clear hfz6_7
            try clear hfz6_8
            try clear hfz6_9
            try clear p2
            obtain ⟨kq, x26_11, rfl, HA, HJ11, BK101, HB⟩ := hcut
            cases kq with
            | zero => exact absurd HA.out (by simp [zonemap_Check.j1])
            | succ kj11 =>
              have H := HA.out
              clear HA
              simp only [zonemap_Check.j1] at H
              by_cases c19 : x26_11 = true
              · subst c19
                have H1 : (some 2) = some r := by rw [if_pos rfl] at H; exact H
                clear H
                have H := H1
                clear H1
                obtain rfl := Option.some.inj H
                go_wp2
                go_ret
                exact ⟨by first | rfl | (simp [errW_none, errW_some] <;> rfl) | (simp [*, errW_none, errW_some] <;> rfl), by repeat (first | (with_reducible first | exact HB.out | apply below_alloc | apply pw_below_drewN | apply below_drew1 | refine below_set ?_ GE101.out) | exact HB.out)⟩
              · replace c19 := Bool.eq_false_iff.mpr c19
                subst c19
                have H1 : (if a0_1 > a0_2 then (some 9) else ((zonemap_isValue.f a0_3).bind fun t104 => (if t104 = true then ((zonemap_isValue.f a0_4).bind fun t105 => (zonemap_Check.j2 kj11 (!t105) a0_0 a0_1 a0_2 a0_3 a0_4 a0_5 a0_6 a0_7 a0_8 a0_9 a0_10 a0_11 a0_12)) else (zonemap_Check.j2 kj11 true a0_0 a0_1 a0_2 a0_3 a0_4 a0_5 a0_6 a0_7 a0_8 a0_9 a0_10 a0_11 a0_12)))) = some r := by rw [if_neg (show ¬ (false = true) by decide)] at H; exact H
                clear H
                have H := H1
                clear H1
                by_cases c20 : a0_1 > a0_2
                · rw [if_pos c20] at H
                  have c20b0 : decide (a0_2 < a0_1) = true := decide_eq_true c20
                  clear c20
                  obtain rfl := Option.some.inj H
                  have hcz21_0 : wc.cell? ⟨gb101, 0, none⟩ = some (.int .i64 a0_0) := (blk_cell BK101.out 0).trans rfl
                  have hcz21_1 : wc.cell? ⟨gb101, 1, none⟩ = some (.int .i64 a0_1) := (blk_cell BK101.out 1).trans rfl
                  have hcz21_2 : wc.cell? ⟨gb101, 2, none⟩ = some (.int .i64 a0_2) := (blk_cell BK101.out 2).trans rfl
                  have hcz21_3 : wc.cell? ⟨gb101, 3, none⟩ = some (.int .i64 a0_3) := (blk_cell BK101.out 3).trans rfl
                  have hcz21_4 : wc.cell? ⟨gb101, 4, none⟩ = some (.int .i64 a0_4) := (blk_cell BK101.out 4).trans rfl
                  have hcz21_5 : wc.cell? ⟨gb101, 5, none⟩ = some (.int .u32 a0_5) := (blk_cell BK101.out 5).trans rfl
                  have hcz21_6 : wc.cell? ⟨gb101, 6, none⟩ = some (.int .u32 a0_6) := (blk_cell BK101.out 6).trans rfl
                  have hcz21_7 : wc.cell? ⟨gb101, 7, none⟩ = some (.int .u32 a0_7) := (blk_cell BK101.out 7).trans rfl
                  have hcz21_8 : wc.cell? ⟨gb101, 8, none⟩ = some (.int .u32 a0_8) := (blk_cell BK101.out 8).trans rfl
                  have hcz21_9 : wc.cell? ⟨gb101, 9, none⟩ = some (.int .u32 a0_9) := (blk_cell BK101.out 9).trans rfl
                  have hcz21_10 : wc.cell? ⟨gb101, 10, none⟩ = some (.int .u32 a0_10) := (blk_cell BK101.out 10).trans rfl
                  have hcz21_11 : wc.cell? ⟨gb101, 11, none⟩ = some (.int .u32 a0_11) := (blk_cell BK101.out 11).trans rfl
                  have hcz21_12 : wc.cell? ⟨gb101, 12, none⟩ = some (.int .u32 a0_12) := (blk_cell BK101.out 12).trans rfl
                  have hfz21_0 := blk_frozen BK101.out 0
                  have hfz21_1 := blk_frozen BK101.out 1
                  have hfz21_2 := blk_frozen BK101.out 2
                  have hfz21_3 := blk_frozen BK101.out 3
                  have hfz21_4 := blk_frozen BK101.out 4
                  have hfz21_5 := blk_frozen BK101.out 5
                  have hfz21_6 := blk_frozen BK101.out 6
                  have hfz21_7 := blk_frozen BK101.out 7
                  have hfz21_8 := blk_frozen BK101.out 8
                  have hfz21_9 := blk_frozen BK101.out 9
                  have hfz21_10 := blk_frozen BK101.out 10
                  have hfz21_11 := blk_frozen BK101.out 11
                  have hfz21_12 := blk_frozen BK101.out 12
                  go_wp2
                  go_ret
                  exact ⟨by first | rfl | (simp [errW_none, errW_some] <;> rfl) | (simp [*, errW_none, errW_some] <;> rfl), by repeat (first | (with_reducible first | exact HB.out | apply below_alloc | apply pw_below_drewN | apply below_drew1 | refine below_set ?_ GE101.out) | exact HB.out)⟩
                · rw [if_neg c20] at H
                  have c20b0 : decide (a0_2 < a0_1) = false := decide_eq_false c20
                  clear c20
                  have HC22 := Aside0.mk H
                  clear H
                  have hcz23_0 : wc.cell? ⟨gb101, 0, none⟩ = some (.int .i64 a0_0) := (blk_cell BK101.out 0).trans rfl
                  have hcz23_1 : wc.cell? ⟨gb101, 1, none⟩ = some (.int .i64 a0_1) := (blk_cell BK101.out 1).trans rfl
                  have hcz23_2 : wc.cell? ⟨gb101, 2, none⟩ = some (.int .i64 a0_2) := (blk_cell BK101.out 2).trans rfl
                  have hcz23_3 : wc.cell? ⟨gb101, 3, none⟩ = some (.int .i64 a0_3) := (blk_cell BK101.out 3).trans rfl
                  have hcz23_4 : wc.cell? ⟨gb101, 4, none⟩ = some (.int .i64 a0_4) := (blk_cell BK101.out 4).trans rfl
                  have hcz23_5 : wc.cell? ⟨gb101, 5, none⟩ = some (.int .u32 a0_5) := (blk_cell BK101.out 5).trans rfl
                  have hcz23_6 : wc.cell? ⟨gb101, 6, none⟩ = some (.int .u32 a0_6) := (blk_cell BK101.out 6).trans rfl
                  have hcz23_7 : wc.cell? ⟨gb101, 7, none⟩ = some (.int .u32 a0_7) := (blk_cell BK101.out 7).trans rfl
                  have hcz23_8 : wc.cell? ⟨gb101, 8, none⟩ = some (.int .u32 a0_8) := (blk_cell BK101.out 8).trans rfl
                  have hcz23_9 : wc.cell? ⟨gb101, 9, none⟩ = some (.int .u32 a0_9) := (blk_cell BK101.out 9).trans rfl
                  have hcz23_10 : wc.cell? ⟨gb101, 10, none⟩ = some (.int .u32 a0_10) := (blk_cell BK101.out 10).trans rfl
                  have hcz23_11 : wc.cell? ⟨gb101, 11, none⟩ = some (.int .u32 a0_11) := (blk_cell BK101.out 11).trans rfl
                  have hcz23_12 : wc.cell? ⟨gb101, 12, none⟩ = some (.int .u32 a0_12) := (blk_cell BK101.out 12).trans rfl
                  have hfz23_0 := blk_frozen BK101.out 0
                  have hfz23_1 := blk_frozen BK101.out 1
                  have hfz23_2 := blk_frozen BK101.out 2
                  have hfz23_3 := blk_frozen BK101.out 3
                  have hfz23_4 := blk_frozen BK101.out 4
                  have hfz23_5 := blk_frozen BK101.out 5
                  have hfz23_6 := blk_frozen BK101.out 6
                  have hfz23_7 := blk_frozen BK101.out 7
                  have hfz23_8 := blk_frozen BK101.out 8
                  have hfz23_9 := blk_frozen BK101.out 9
                  have hfz23_10 := blk_frozen BK101.out 10
                  have hfz23_11 := blk_frozen BK101.out 11
                  have hfz23_12 := blk_frozen BK101.out 12
                  go_upto_region 11 with (fail)
                  go_cut [41] (fun v41 wc => ∃ (kq : Nat) (x41_21 : Bool), v41 = .bool x41_21 ∧ Aside0 (zonemap_Check.j2 kq x41_21 a0_0 a0_1 a0_2 a0_3 a0_4 a0_5 a0_6 a0_7 a0_8 a0_9 a0_10 a0_11 a0_12 = some r) ∧ Aside0 (kq ≤ kj11) ∧ Aside0 (wc.heap[gb101]? = some (.cells #[.int .i64 a0_0, .int .i64 a0_1, .int .i64 a0_2, .int .i64 a0_3, .int .i64 a0_4, .int .u32 a0_5, .int .u32 a0_6, .int .u32 a0_7, .int .u32 a0_8, .int .u32 a0_9, .int .u32 a0_10, .int .u32 a0_11, .int .u32 a0_12] 25 (0, 0))) ∧ Aside0 (Below w.heap.size w wc))
                  case first =>
                    have H := HC22.out
                    clear HC22
                    replace H := Option.bind_eq_some_iff.mp H
                    obtain ⟨t104, A240, H⟩ := H
                    replace H : (if t104 = true then ((zonemap_isValue.f a0_4).bind fun t105 => (zonemap_Check.j2 kj11 (!t105) a0_0 a0_1 a0_2 a0_3 a0_4 a0_5 a0_6 a0_7 a0_8 a0_9 a0_10 a0_11 a0_12)) else (zonemap_Check.j2 kj11 true a0_0 a0_1 a0_2 a0_3 a0_4 a0_5 a0_6 a0_7 a0_8 a0_9 a0_10 a0_11 a0_12)) = some r := H
                    have A24 := Aside0.mk A240
                    clear A240
                    by_cases c25 : t104 = true
                    · subst c25
                      have H1 : ((zonemap_isValue.f a0_4).bind fun t105 => (zonemap_Check.j2 kj11 (!t105) a0_0 a0_1 a0_2 a0_3 a0_4 a0_5 a0_6 a0_7 a0_8 a0_9 a0_10 a0_11 a0_12)) = some r := by rw [if_pos rfl] at H; exact H
                      clear H
                      have H := H1
                      clear H1
                      replace H := Option.bind_eq_some_iff.mp H
                      obtain ⟨t105, A260, H⟩ := H
                      replace H : (zonemap_Check.j2 kj11 (!t105) a0_0 a0_1 a0_2 a0_3 a0_4 a0_5 a0_6 a0_7 a0_8 a0_9 a0_10 a0_11 a0_12) = some r := H
                      have A26 := Aside0.mk A260
                      clear A260
                      have H' := Aside0.mk H
                      clear H
                      have hcz27_0 : wc.cell? ⟨gb101, 0, none⟩ = some (.int .i64 a0_0) := (blk_cell BK101.out 0).trans rfl
                      have hcz27_1 : wc.cell? ⟨gb101, 1, none⟩ = some (.int .i64 a0_1) := (blk_cell BK101.out 1).trans rfl
                      have hcz27_2 : wc.cell? ⟨gb101, 2, none⟩ = some (.int .i64 a0_2) := (blk_cell BK101.out 2).trans rfl
                      have hcz27_3 : wc.cell? ⟨gb101, 3, none⟩ = some (.int .i64 a0_3) := (blk_cell BK101.out 3).trans rfl
                      have hcz27_4 : wc.cell? ⟨gb101, 4, none⟩ = some (.int .i64 a0_4) := (blk_cell BK101.out 4).trans rfl
                      have hcz27_5 : wc.cell? ⟨gb101, 5, none⟩ = some (.int .u32 a0_5) := (blk_cell BK101.out 5).trans rfl
                      have hcz27_6 : wc.cell? ⟨gb101, 6, none⟩ = some (.int .u32 a0_6) := (blk_cell BK101.out 6).trans rfl
                      have hcz27_7 : wc.cell? ⟨gb101, 7, none⟩ = some (.int .u32 a0_7) := (blk_cell BK101.out 7).trans rfl
                      have hcz27_8 : wc.cell? ⟨gb101, 8, none⟩ = some (.int .u32 a0_8) := (blk_cell BK101.out 8).trans rfl
                      have hcz27_9 : wc.cell? ⟨gb101, 9, none⟩ = some (.int .u32 a0_9) := (blk_cell BK101.out 9).trans rfl
                      have hcz27_10 : wc.cell? ⟨gb101, 10, none⟩ = some (.int .u32 a0_10) := (blk_cell BK101.out 10).trans rfl
                      have hcz27_11 : wc.cell? ⟨gb101, 11, none⟩ = some (.int .u32 a0_11) := (blk_cell BK101.out 11).trans rfl
                      have hcz27_12 : wc.cell? ⟨gb101, 12, none⟩ = some (.int .u32 a0_12) := (blk_cell BK101.out 12).trans rfl
                      have hfz27_0 := blk_frozen BK101.out 0
                      have hfz27_1 := blk_frozen BK101.out 1
                      have hfz27_2 := blk_frozen BK101.out 2
                      have hfz27_3 := blk_frozen BK101.out 3
                      have hfz27_4 := blk_frozen BK101.out 4
                      have hfz27_5 := blk_frozen BK101.out 5
                      have hfz27_6 := blk_frozen BK101.out 6
                      have hfz27_7 := blk_frozen BK101.out 7
                      have hfz27_8 := blk_frozen BK101.out 8
                      have hfz27_9 := blk_frozen BK101.out 9
                      have hfz27_10 := blk_frozen BK101.out 10
                      have hfz27_11 := blk_frozen BK101.out 11
                      have hfz27_12 := blk_frozen BK101.out 12
                      go_wp2_with (first | ((with_reducible refine gate_callee (f := 35) rfl ?_); refine goesL_ (some 34) rfl rfl Try.func35 (by kernel_rfl) rfl #[.int .i64 a0_3] rfl (by (try simp only [List.map_toArray, List.map_cons, List.map_nil]); first | done | rfl | (simp only [List.length_drop, List.length_take]; rfl)) ?_; (with_reducible refine (zonemap_isValue.calls a0_3 true _ A24.out).mono ?_); rintro e w' ⟨rfl, ⟨nd, rfl⟩⟩; refine ⟨_, rfl, ?_⟩) | (go_at_call 35; (with_reducible refine (zonemap_isValue.calls a0_4 t105 _ A26.out).mono ?_); rintro e w' ⟨rfl, ⟨nd, rfl⟩⟩))
                      go_meet
                      case rel => exact ⟨_, (!t105), (by first | rfl | (simp; done) | (simp [*]; done)), H', ⟨by have := HJ1.out; have := HJ11.out; first | omega | exact Nat.le_refl _⟩, ⟨by (with_reducible repeat (first | refine blk_drewN ?_ _ | refine blk_drew ?_ | refine blk_alloc ?_ _)); exact BK101.out⟩, ⟨by repeat (first | (with_reducible first | exact HB.out | apply below_alloc | apply pw_below_drewN | apply below_drew1 | refine below_set ?_ GE101.out) | exact HB.out)⟩⟩
                    · replace c25 := Bool.eq_false_iff.mpr c25
                      subst c25
                      have H1 : (zonemap_Check.j2 kj11 true a0_0 a0_1 a0_2 a0_3 a0_4 a0_5 a0_6 a0_7 a0_8 a0_9 a0_10 a0_11 a0_12) = some r := by rw [if_neg (show ¬ (false = true) by decide)] at H; exact H
                      clear H
                      have H := H1
                      clear H1
                      have H' := Aside0.mk H
                      clear H
                      have hcz28_0 : wc.cell? ⟨gb101, 0, none⟩ = some (.int .i64 a0_0) := (blk_cell BK101.out 0).trans rfl
                      have hcz28_1 : wc.cell? ⟨gb101, 1, none⟩ = some (.int .i64 a0_1) := (blk_cell BK101.out 1).trans rfl
                      have hcz28_2 : wc.cell? ⟨gb101, 2, none⟩ = some (.int .i64 a0_2) := (blk_cell BK101.out 2).trans rfl
                      have hcz28_3 : wc.cell? ⟨gb101, 3, none⟩ = some (.int .i64 a0_3) := (blk_cell BK101.out 3).trans rfl
                      have hcz28_4 : wc.cell? ⟨gb101, 4, none⟩ = some (.int .i64 a0_4) := (blk_cell BK101.out 4).trans rfl
                      have hcz28_5 : wc.cell? ⟨gb101, 5, none⟩ = some (.int .u32 a0_5) := (blk_cell BK101.out 5).trans rfl
                      have hcz28_6 : wc.cell? ⟨gb101, 6, none⟩ = some (.int .u32 a0_6) := (blk_cell BK101.out 6).trans rfl
                      have hcz28_7 : wc.cell? ⟨gb101, 7, none⟩ = some (.int .u32 a0_7) := (blk_cell BK101.out 7).trans rfl
                      have hcz28_8 : wc.cell? ⟨gb101, 8, none⟩ = some (.int .u32 a0_8) := (blk_cell BK101.out 8).trans rfl
                      have hcz28_9 : wc.cell? ⟨gb101, 9, none⟩ = some (.int .u32 a0_9) := (blk_cell BK101.out 9).trans rfl
                      have hcz28_10 : wc.cell? ⟨gb101, 10, none⟩ = some (.int .u32 a0_10) := (blk_cell BK101.out 10).trans rfl
                      have hcz28_11 : wc.cell? ⟨gb101, 11, none⟩ = some (.int .u32 a0_11) := (blk_cell BK101.out 11).trans rfl
                      have hcz28_12 : wc.cell? ⟨gb101, 12, none⟩ = some (.int .u32 a0_12) := (blk_cell BK101.out 12).trans rfl
                      have hfz28_0 := blk_frozen BK101.out 0
                      have hfz28_1 := blk_frozen BK101.out 1
                      have hfz28_2 := blk_frozen BK101.out 2
                      have hfz28_3 := blk_frozen BK101.out 3
                      have hfz28_4 := blk_frozen BK101.out 4
                      have hfz28_5 := blk_frozen BK101.out 5
                      have hfz28_6 := blk_frozen BK101.out 6
                      have hfz28_7 := blk_frozen BK101.out 7
                      have hfz28_8 := blk_frozen BK101.out 8
                      have hfz28_9 := blk_frozen BK101.out 9
                      have hfz28_10 := blk_frozen BK101.out 10
                      have hfz28_11 := blk_frozen BK101.out 11
                      have hfz28_12 := blk_frozen BK101.out 12
                      go_wp2_with (first | ((with_reducible refine gate_callee (f := 35) rfl ?_); refine goesL_ (some 34) rfl rfl Try.func35 (by kernel_rfl) rfl #[.int .i64 a0_3] rfl (by (try simp only [List.map_toArray, List.map_cons, List.map_nil]); first | done | rfl | (simp only [List.length_drop, List.length_take]; rfl)) ?_; (with_reducible refine (zonemap_isValue.calls a0_3 false _ A24.out).mono ?_); rintro e w' ⟨rfl, ⟨nd, rfl⟩⟩; refine ⟨_, rfl, ?_⟩))
                      go_meet
                      case rel => exact ⟨_, (true), (by first | rfl | (simp; done) | (simp [*]; done)), H', ⟨by have := HJ1.out; have := HJ11.out; first | omega | exact Nat.le_refl _⟩, ⟨by (with_reducible repeat (first | refine blk_drewN ?_ _ | refine blk_drew ?_ | refine blk_alloc ?_ _)); exact BK101.out⟩, ⟨by repeat (first | (with_reducible first | exact HB.out | apply below_alloc | apply pw_below_drewN | apply below_drew1 | refine below_set ?_ GE101.out) | exact HB.out)⟩⟩
                  case rest =>
                    clear HC22
                    try clear c1
                    try clear c2
                    try clear p2
                    try clear c3
                    try clear c4
                    try clear c4b0
                    try clear c4b1
                    try clear c7
                    try clear c8
                    try clear c8b0
                    try clear c8b1
                    try clear c9
                    try clear c9b0
                    try clear c13
                    try clear c15
                    try clear c19
                    try clear c20
                    try clear c20b0
                    try clear c25
                    try clear hcz10_0
                    try clear hcz10_1
                    try clear hcz10_10
                    try clear hcz10_11
                    try clear hcz10_12
                    try clear hcz10_2
                    try clear hcz10_3
                    try clear hcz10_4
                    try clear hcz10_5
                    try clear hcz10_6
                    try clear hcz10_7
                    try clear hcz10_8
                    try clear hcz10_9
                    try clear hcz11_0
                    try clear hcz11_1
                    try clear hcz11_10
                    try clear hcz11_11
                    try clear hcz11_12
                    try clear hcz11_2
                    try clear hcz11_3
                    try clear hcz11_4
                    try clear hcz11_5
                    try clear hcz11_6
                    try clear hcz11_7
                    try clear hcz11_8
                    try clear hcz11_9
                    try clear hcz13_0
                    try clear hcz13_1
                    try clear hcz13_10
                    try clear hcz13_11
                    try clear hcz13_12
                    try clear hcz13_2
                    try clear hcz13_3
                    try clear hcz13_4
                    try clear hcz13_5
                    try clear hcz13_6
                    try clear hcz13_7
                    try clear hcz13_8
                    try clear hcz13_9
                    try clear hcz17_0
                    try clear hcz17_1
                    try clear hcz17_10
                    try clear hcz17_11
                    try clear hcz17_12
                    try clear hcz17_2
                    try clear hcz17_3
                    try clear hcz17_4
                    try clear hcz17_5
                    try clear hcz17_6
                    try clear hcz17_7
                    try clear hcz17_8
                    try clear hcz17_9
                    try clear hcz18_0
                    try clear hcz18_1
                    try clear hcz18_10
                    try clear hcz18_11
                    try clear hcz18_12
                    try clear hcz18_2
                    try clear hcz18_3
                    try clear hcz18_4
                    try clear hcz18_5
                    try clear hcz18_6
                    try clear hcz18_7
                    try clear hcz18_8
                    try clear hcz18_9
                    try clear hcz21_0
                    try clear hcz21_1
                    try clear hcz21_10
                    try clear hcz21_11
                    try clear hcz21_12
                    try clear hcz21_2
                    try clear hcz21_3
                    try clear hcz21_4
                    try clear hcz21_5
                    try clear hcz21_6
                    try clear hcz21_7
                    try clear hcz21_8
                    try clear hcz21_9
                    try clear hcz23_0
                    try clear hcz23_1
                    try clear hcz23_10
                    try clear hcz23_11
                    try clear hcz23_12
                    try clear hcz23_2
                    try clear hcz23_3
                    try clear hcz23_4
                    try clear hcz23_5
                    try clear hcz23_6
                    try clear hcz23_7
                    try clear hcz23_8
                    try clear hcz23_9
                    try clear hcz27_0
                    try clear hcz27_1
                    try clear hcz27_10
                    try clear hcz27_11
                    try clear hcz27_12
                    try clear hcz27_2
                    try clear hcz27_3
                    try clear hcz27_4
                    try clear hcz27_5
                    try clear hcz27_6
                    try clear hcz27_7
                    try clear hcz27_8
                    try clear hcz27_9
                    try clear hcz28_0
                    try clear hcz28_1
                    try clear hcz28_10
                    try clear hcz28_11
                    try clear hcz28_12
                    try clear hcz28_2
                    try clear hcz28_3
                    try clear hcz28_4
                    try clear hcz28_5
                    try clear hcz28_6
                    try clear hcz28_7
                    try clear hcz28_8
                    try clear hcz28_9
                    try clear hcz5_0
                    try clear hcz5_1
                    try clear hcz5_10
                    try clear hcz5_11
                    try clear hcz5_12
                    try clear hcz5_2
                    try clear hcz5_3
                    try clear hcz5_4
                    try clear hcz5_5
                    try clear hcz5_6
                    try clear hcz5_7
                    try clear hcz5_8
                    try clear hcz5_9
                    try clear hcz6_0
                    try clear hcz6_1
                    try clear hcz6_10
                    try clear hcz6_11
                    try clear hcz6_12
                    try clear hcz6_2
                    try clear hcz6_3
                    try clear hcz6_4
                    try clear hcz6_5
                    try clear hcz6_6
                    try clear hcz6_7
                    try clear hcz6_8
                    try clear hcz6_9
                    try clear hfz10_0
                    try clear hfz10_1
                    try clear hfz10_10
                    try clear hfz10_11
                    try clear hfz10_12
                    try clear hfz10_2
                    try clear hfz10_3
                    try clear hfz10_4
                    try clear hfz10_5
                    try clear hfz10_6
                    try clear hfz10_7
                    try clear hfz10_8
                    try clear hfz10_9
                    try clear hfz11_0
                    try clear hfz11_1
                    try clear hfz11_10
                    try clear hfz11_11
                    try clear hfz11_12
                    try clear hfz11_2
                    try clear hfz11_3
                    try clear hfz11_4
                    try clear hfz11_5
                    try clear hfz11_6
                    try clear hfz11_7
                    try clear hfz11_8
                    try clear hfz11_9
                    try clear hfz13_0
                    try clear hfz13_1
                    try clear hfz13_10
                    try clear hfz13_11
                    try clear hfz13_12
                    try clear hfz13_2
                    try clear hfz13_3
                    try clear hfz13_4
                    try clear hfz13_5
                    try clear hfz13_6
                    try clear hfz13_7
                    try clear hfz13_8
                    try clear hfz13_9
                    try clear hfz17_0
                    try clear hfz17_1
                    try clear hfz17_10
                    try clear hfz17_11
                    try clear hfz17_12
                    try clear hfz17_2
                    try clear hfz17_3
                    try clear hfz17_4
                    try clear hfz17_5
                    try clear hfz17_6
                    try clear hfz17_7
                    try clear hfz17_8
                    try clear hfz17_9
                    try clear hfz18_0
                    try clear hfz18_1
                    try clear hfz18_10
                    try clear hfz18_11
                    try clear hfz18_12
                    try clear hfz18_2
                    try clear hfz18_3
                    try clear hfz18_4
                    try clear hfz18_5
                    try clear hfz18_6
                    try clear hfz18_7
                    try clear hfz18_8
                    try clear hfz18_9
                    try clear hfz21_0
                    try clear hfz21_1
                    try clear hfz21_10
                    try clear hfz21_11
                    try clear hfz21_12
                    try clear hfz21_2
                    try clear hfz21_3
                    try clear hfz21_4
                    try clear hfz21_5
                    try clear hfz21_6
                    try clear hfz21_7
                    try clear hfz21_8
                    try clear hfz21_9
                    try clear hfz23_0
                    try clear hfz23_1
                    try clear hfz23_10
                    try clear hfz23_11
                    try clear hfz23_12
                    try clear hfz23_2
                    try clear hfz23_3
                    try clear hfz23_4
                    try clear hfz23_5
                    try clear hfz23_6
                    try clear hfz23_7
                    try clear hfz23_8
                    try clear hfz23_9
                    try clear hfz27_0
                    try clear hfz27_1
                    try clear hfz27_10
                    try clear hfz27_11
                    try clear hfz27_12
                    try clear hfz27_2
                    try clear hfz27_3
                    try clear hfz27_4
                    try clear hfz27_5
                    try clear hfz27_6
                    try clear hfz27_7
                    try clear hfz27_8
                    try clear hfz27_9
                    try clear hfz28_0
                    try clear hfz28_1
                    try clear hfz28_10
                    try clear hfz28_11
                    try clear hfz28_12
                    try clear hfz28_2
                    try clear hfz28_3
                    try clear hfz28_4
                    try clear hfz28_5
                    try clear hfz28_6
                    try clear hfz28_7
                    try clear hfz28_8
                    try clear hfz28_9
                    try clear hfz5_0
                    try clear hfz5_1
                    try clear hfz5_10
                    try clear hfz5_11
                    try clear hfz5_12
                    try clear hfz5_2
                    try clear hfz5_3
                    try clear hfz5_4
                    try clear hfz5_5
                    try clear hfz5_6
                    try clear hfz5_7
                    try clear hfz5_8
                    try clear hfz5_9
                    try clear hfz6_0
                    try clear hfz6_1
                    try clear hfz6_10
                    try clear hfz6_11
                    try clear hfz6_12
                    try clear hfz6_2
                    try clear hfz6_3
                    try clear hfz6_4
                    try clear hfz6_5
                    try clear hfz6_6
                    try clear hfz6_7
                    try clear hfz6_8
                    try clear hfz6_9
                    try clear p2
                    obtain ⟨kq, x41_21, rfl, HA, HJ21, BK101, HB⟩ := hcut
                    cases kq with
                    | zero => exact absurd HA.out (by simp [zonemap_Check.j2])
                    | succ kj21 =>
                      have H := HA.out
                      clear HA
                      simp only [zonemap_Check.j2] at H
                      by_cases c29 : x41_21 = true
                      · subst c29
                        have H1 : (some 2) = some r := by rw [if_pos rfl] at H; exact H
                        clear H
                        have H := H1
                        clear H1
                        obtain rfl := Option.some.inj H
                        go_wp2
                        go_ret
                        exact ⟨by first | rfl | (simp [errW_none, errW_some] <;> rfl) | (simp [*, errW_none, errW_some] <;> rfl), by repeat (first | (with_reducible first | exact HB.out | apply below_alloc | apply pw_below_drewN | apply below_drew1 | refine below_set ?_ GE101.out) | exact HB.out)⟩
                      · replace c29 := Bool.eq_false_iff.mpr c29
                        subst c29
                        have H1 : (if a0_3 > a0_4 then (some 9) else (some 0)) = some r := by rw [if_neg (show ¬ (false = true) by decide)] at H; exact H
                        clear H
                        have H := H1
                        clear H1
                        by_cases c30 : a0_3 > a0_4
                        · rw [if_pos c30] at H
                          have c30b0 : decide (a0_4 < a0_3) = true := decide_eq_true c30
                          clear c30
                          obtain rfl := Option.some.inj H
                          have hcz31_0 : wc.cell? ⟨gb101, 0, none⟩ = some (.int .i64 a0_0) := (blk_cell BK101.out 0).trans rfl
                          have hcz31_1 : wc.cell? ⟨gb101, 1, none⟩ = some (.int .i64 a0_1) := (blk_cell BK101.out 1).trans rfl
                          have hcz31_2 : wc.cell? ⟨gb101, 2, none⟩ = some (.int .i64 a0_2) := (blk_cell BK101.out 2).trans rfl
                          have hcz31_3 : wc.cell? ⟨gb101, 3, none⟩ = some (.int .i64 a0_3) := (blk_cell BK101.out 3).trans rfl
                          have hcz31_4 : wc.cell? ⟨gb101, 4, none⟩ = some (.int .i64 a0_4) := (blk_cell BK101.out 4).trans rfl
                          have hcz31_5 : wc.cell? ⟨gb101, 5, none⟩ = some (.int .u32 a0_5) := (blk_cell BK101.out 5).trans rfl
                          have hcz31_6 : wc.cell? ⟨gb101, 6, none⟩ = some (.int .u32 a0_6) := (blk_cell BK101.out 6).trans rfl
                          have hcz31_7 : wc.cell? ⟨gb101, 7, none⟩ = some (.int .u32 a0_7) := (blk_cell BK101.out 7).trans rfl
                          have hcz31_8 : wc.cell? ⟨gb101, 8, none⟩ = some (.int .u32 a0_8) := (blk_cell BK101.out 8).trans rfl
                          have hcz31_9 : wc.cell? ⟨gb101, 9, none⟩ = some (.int .u32 a0_9) := (blk_cell BK101.out 9).trans rfl
                          have hcz31_10 : wc.cell? ⟨gb101, 10, none⟩ = some (.int .u32 a0_10) := (blk_cell BK101.out 10).trans rfl
                          have hcz31_11 : wc.cell? ⟨gb101, 11, none⟩ = some (.int .u32 a0_11) := (blk_cell BK101.out 11).trans rfl
                          have hcz31_12 : wc.cell? ⟨gb101, 12, none⟩ = some (.int .u32 a0_12) := (blk_cell BK101.out 12).trans rfl
                          have hfz31_0 := blk_frozen BK101.out 0
                          have hfz31_1 := blk_frozen BK101.out 1
                          have hfz31_2 := blk_frozen BK101.out 2
                          have hfz31_3 := blk_frozen BK101.out 3
                          have hfz31_4 := blk_frozen BK101.out 4
                          have hfz31_5 := blk_frozen BK101.out 5
                          have hfz31_6 := blk_frozen BK101.out 6
                          have hfz31_7 := blk_frozen BK101.out 7
                          have hfz31_8 := blk_frozen BK101.out 8
                          have hfz31_9 := blk_frozen BK101.out 9
                          have hfz31_10 := blk_frozen BK101.out 10
                          have hfz31_11 := blk_frozen BK101.out 11
                          have hfz31_12 := blk_frozen BK101.out 12
                          go_wp2
                          go_ret
                          exact ⟨by first | rfl | (simp [errW_none, errW_some] <;> rfl) | (simp [*, errW_none, errW_some] <;> rfl), by repeat (first | (with_reducible first | exact HB.out | apply below_alloc | apply pw_below_drewN | apply below_drew1 | refine below_set ?_ GE101.out) | exact HB.out)⟩
                        · rw [if_neg c30] at H
                          have c30b0 : decide (a0_4 < a0_3) = false := decide_eq_false c30
                          clear c30
                          obtain rfl := Option.some.inj H
                          have hcz32_0 : wc.cell? ⟨gb101, 0, none⟩ = some (.int .i64 a0_0) := (blk_cell BK101.out 0).trans rfl
                          have hcz32_1 : wc.cell? ⟨gb101, 1, none⟩ = some (.int .i64 a0_1) := (blk_cell BK101.out 1).trans rfl
                          have hcz32_2 : wc.cell? ⟨gb101, 2, none⟩ = some (.int .i64 a0_2) := (blk_cell BK101.out 2).trans rfl
                          have hcz32_3 : wc.cell? ⟨gb101, 3, none⟩ = some (.int .i64 a0_3) := (blk_cell BK101.out 3).trans rfl
                          have hcz32_4 : wc.cell? ⟨gb101, 4, none⟩ = some (.int .i64 a0_4) := (blk_cell BK101.out 4).trans rfl
                          have hcz32_5 : wc.cell? ⟨gb101, 5, none⟩ = some (.int .u32 a0_5) := (blk_cell BK101.out 5).trans rfl
                          have hcz32_6 : wc.cell? ⟨gb101, 6, none⟩ = some (.int .u32 a0_6) := (blk_cell BK101.out 6).trans rfl
                          have hcz32_7 : wc.cell? ⟨gb101, 7, none⟩ = some (.int .u32 a0_7) := (blk_cell BK101.out 7).trans rfl
                          have hcz32_8 : wc.cell? ⟨gb101, 8, none⟩ = some (.int .u32 a0_8) := (blk_cell BK101.out 8).trans rfl
                          have hcz32_9 : wc.cell? ⟨gb101, 9, none⟩ = some (.int .u32 a0_9) := (blk_cell BK101.out 9).trans rfl
                          have hcz32_10 : wc.cell? ⟨gb101, 10, none⟩ = some (.int .u32 a0_10) := (blk_cell BK101.out 10).trans rfl
                          have hcz32_11 : wc.cell? ⟨gb101, 11, none⟩ = some (.int .u32 a0_11) := (blk_cell BK101.out 11).trans rfl
                          have hcz32_12 : wc.cell? ⟨gb101, 12, none⟩ = some (.int .u32 a0_12) := (blk_cell BK101.out 12).trans rfl
                          have hfz32_0 := blk_frozen BK101.out 0
                          have hfz32_1 := blk_frozen BK101.out 1
                          have hfz32_2 := blk_frozen BK101.out 2
                          have hfz32_3 := blk_frozen BK101.out 3
                          have hfz32_4 := blk_frozen BK101.out 4
                          have hfz32_5 := blk_frozen BK101.out 5
                          have hfz32_6 := blk_frozen BK101.out 6
                          have hfz32_7 := blk_frozen BK101.out 7
                          have hfz32_8 := blk_frozen BK101.out 8
                          have hfz32_9 := blk_frozen BK101.out 9
                          have hfz32_10 := blk_frozen BK101.out 10
                          have hfz32_11 := blk_frozen BK101.out 11
                          have hfz32_12 := blk_frozen BK101.out 12
                          go_wp2
                          go_ret
                          exact ⟨by first | rfl | (simp [errW_none, errW_some] <;> rfl) | (simp [*, errW_none, errW_some] <;> rfl), by repeat (first | (with_reducible first | exact HB.out | apply below_alloc | apply pw_below_drewN | apply below_drew1 | refine below_set ?_ GE101.out) | exact HB.out)⟩

end Go.Proofs.Ytdokabaeddaipaa.A
end
section
namespace Go.Proofs.Ytdokabaeddaipaa.A
open Go.RowKit Go.Proofs.YtdokabaeddaipaaW.PrintWords Go.Proofs.YtdokabaeddaipaaW.PrintLast Go.Proofs.YtdokabaeddaipaaW.PrintMore Go.Proofs.Ytdokabaeddaipaa.Hand
attribute [local go_sem] max2_int min2_int max_two min_two max_three min_three max_four min_four   -- for this text's walks alone
set_option linter.unusedVariables false
set_option linter.unusedSimpArgs false

/-! ### lookoutref16_bit: function 39 -/
def lookoutref16_bit.f (k : Nat) (a0 : ByteArray) (a1 : Int) : Option (Int) := if 0 ≤ a1 then (if a1 ≤ (wrap64 (a1 + 1)) then (if (wrap64 (a1 + 1)) ≤ 3 then (if ((⟨#[48, 49, 50]⟩ : ByteArray).extract (a1 : Int).toNat ((wrap64 (a1 + 1)) : Int).toNat).size + 1 ≤ 9223372036854775807 then (if (((⟨#[48, 49, 50]⟩ : ByteArray).extract (a1 : Int).toNat ((wrap64 (a1 + 1)) : Int).toNat) ++ (⟨#[58]⟩ : ByteArray)).size + a0.size ≤ 9223372036854775807 then ((lookoutref05_HashString.f k ((((⟨#[48, 49, 50]⟩ : ByteArray).extract (a1 : Int).toNat ((wrap64 (a1 + 1)) : Int).toNat) ++ (⟨#[58]⟩ : ByteArray)) ++ a0)).bind fun t106 => (some (Int.tmod t106 256))) else (none)) else (none)) else (none)) else (none)) else (none)
theorem lookoutref16_bit.mono : ∀ a0 a1 k, LeO (lookoutref16_bit.f k a0 a1) (lookoutref16_bit.f (k + 1) a0 a1) := by
  intro a0 a1 k
  unfold lookoutref16_bit.f
  repeat' first
      | (with_reducible exact lookoutref05_HashString.mono _ _)
      | (with_reducible exact LeO.refl _)
      | (with_reducible exact LeO.none _)
      | (with_reducible refine LeO.ite ?_ ?_)
      | (with_reducible refine LeO.bind ?_ (fun _ => ?_))
      | exact lookoutref05_HashString.mono _ _
      | exact LeO.none _
      | refine LeO.ite ?_ ?_
      | refine LeO.bind ?_ (fun _ => ?_)
set_option maxHeartbeats 8000000 in
set_option maxRecDepth 100000 in
theorem lookoutref16_bit.calls (k : Nat) (a0 : ByteArray) (a1 : Int) (r : Int) (w : World) (h : lookoutref16_bit.f k a0 a1 = some r) :
    Calls Try.prog 39 #[.string a0, .int .i64 a1] w fun e w' => e = .returned (.int .i64 r) ∧ Drawn0 w w' := by
  have H : (if 0 ≤ a1 then (if a1 ≤ (wrap64 (a1 + 1)) then (if (wrap64 (a1 + 1)) ≤ 3 then (if ((⟨#[48, 49, 50]⟩ : ByteArray).extract (a1 : Int).toNat ((wrap64 (a1 + 1)) : Int).toNat).size + 1 ≤ 9223372036854775807 then (if (((⟨#[48, 49, 50]⟩ : ByteArray).extract (a1 : Int).toNat ((wrap64 (a1 + 1)) : Int).toNat) ++ (⟨#[58]⟩ : ByteArray)).size + a0.size ≤ 9223372036854775807 then ((lookoutref05_HashString.f k ((((⟨#[48, 49, 50]⟩ : ByteArray).extract (a1 : Int).toNat ((wrap64 (a1 + 1)) : Int).toNat) ++ (⟨#[58]⟩ : ByteArray)) ++ a0)).bind fun t106 => (some (Int.tmod t106 256))) else (none)) else (none)) else (none)) else (none)) else (none)) = some r := h
  clear h
  by_cases c3 : 0 ≤ a1
  · rw [if_pos c3] at H
    have c3b0 := eq_true c3
    have c3b1 : decide (0 ≤ a1) = true := decide_eq_true c3
    clear c3
    by_cases c4 : a1 ≤ (wrap64 (a1 + 1))
    · rw [if_pos c4] at H
      have c4b0 := eq_true c4
      have c4b1 : decide (a1 ≤ (wrap64 (a1 + 1))) = true := decide_eq_true c4
      by_cases c5 : (wrap64 (a1 + 1)) ≤ 3
      · rw [if_pos c5] at H
        have c5b0 := eq_true c5
        have c5b1 : decide ((wrap64 (a1 + 1)) ≤ 3) = true := decide_eq_true c5
        by_cases c6 : ((⟨#[48, 49, 50]⟩ : ByteArray).extract (a1 : Int).toNat ((wrap64 (a1 + 1)) : Int).toNat).size + 1 ≤ 9223372036854775807
        · rw [if_pos c6] at H
          have c6b0 := eq_true c6
          have c6b1 : decide (((⟨#[48, 49, 50]⟩ : ByteArray).extract (a1 : Int).toNat ((wrap64 (a1 + 1)) : Int).toNat).size + 1 ≤ 9223372036854775807) = true := decide_eq_true c6
          try have c6b1_ := by have h := c6b1; simp only [Int.toNat_natCast] at h; exact h
          try have c6b2 : (9223372036854775807 < ((⟨#[48, 49, 50]⟩ : ByteArray).extract (a1 : Int).toNat ((wrap64 (a1 + 1)) : Int).toNat).size + 1) = False := eq_false (Nat.not_lt.2 c6)
          try have c6b3 := by have h := c6b2; simp only [ByteArray.size_extract, Int.toNat_natCast, Nat.min_self] at h; exact h
          by_cases c7 : (((⟨#[48, 49, 50]⟩ : ByteArray).extract (a1 : Int).toNat ((wrap64 (a1 + 1)) : Int).toNat) ++ (⟨#[58]⟩ : ByteArray)).size + a0.size ≤ 9223372036854775807
          · rw [if_pos c7] at H
            have c7b0 := eq_true c7
            have c7b1 : decide ((((⟨#[48, 49, 50]⟩ : ByteArray).extract (a1 : Int).toNat ((wrap64 (a1 + 1)) : Int).toNat) ++ (⟨#[58]⟩ : ByteArray)).size + a0.size ≤ 9223372036854775807) = true := decide_eq_true c7
            try have c7b1_ := by have h := c7b1; simp only [Int.toNat_natCast] at h; exact h
            try have c7b2 : (9223372036854775807 < (((⟨#[48, 49, 50]⟩ : ByteArray).extract (a1 : Int).toNat ((wrap64 (a1 + 1)) : Int).toNat) ++ (⟨#[58]⟩ : ByteArray)).size + a0.size) = False := eq_false (Nat.not_lt.2 c7)
            try have c7b3 := by have h := c7b2; simp only [ByteArray.size_extract, Int.toNat_natCast, Nat.min_self] at h; exact h
            replace H := Option.bind_eq_some_iff.mp H
            obtain ⟨t106, A80, H⟩ := H
            replace H : (some (Int.tmod t106 256)) = some r := H
            have A8 := Aside0.mk A80
            clear A80
            obtain rfl := Option.some.inj H
            go_enter Try.func39, Try.ntmps39
            go_wp2_with (first | ((with_reducible refine gate_callee (f := 55) rfl ?_); refine goesL_ (some 12) rfl rfl Try.func55 (by kernel_rfl) rfl #[.string ((((⟨#[48, 49, 50]⟩ : ByteArray).extract (a1 : Int).toNat ((wrap64 (a1 + 1)) : Int).toNat) ++ (⟨#[58]⟩ : ByteArray)) ++ a0)] rfl (by (try simp only [List.map_toArray, List.map_cons, List.map_nil]); first | done | rfl | (simp only [List.length_drop, List.length_take]; rfl)) ?_; (with_reducible refine (lookoutref05_HashString.calls k ((((⟨#[48, 49, 50]⟩ : ByteArray).extract (a1 : Int).toNat ((wrap64 (a1 + 1)) : Int).toNat) ++ (⟨#[58]⟩ : ByteArray)) ++ a0) t106 _ A8.out).mono ?_); rintro e w' ⟨rfl, ⟨nd, rfl⟩⟩; refine ⟨_, rfl, ?_⟩))
            go_ret
            exact ⟨by first | rfl | (simp; done) | (simp [*]; done), by repeat (first | exact Drawn0.refl _ | apply Drawn0.step)⟩
          · rw [if_neg c7] at H
            exact absurd H (by simp)
        · rw [if_neg c6] at H
          exact absurd H (by simp)
      · rw [if_neg c5] at H
        exact absurd H (by simp)
    · rw [if_neg c4] at H
      exact absurd H (by simp)
  · rw [if_neg c3] at H
    exact absurd H (by simp)

end Go.Proofs.Ytdokabaeddaipaa.A
end
section
namespace Go.Proofs.Ytdokabaeddaipaa.A
open Go.RowKit Go.Proofs.YtdokabaeddaipaaW.PrintWords Go.Proofs.YtdokabaeddaipaaW.PrintLast Go.Proofs.YtdokabaeddaipaaW.PrintMore Go.Proofs.Ytdokabaeddaipaa.Hand
attribute [local go_sem] max2_int min2_int max_two min_two max_three min_three max_four min_four   -- for this text's walks alone
set_option linter.unusedVariables false
set_option linter.unusedSimpArgs false

/-! ### lookoutref16_within: function 36 -/
def lookoutref16_within.f (a0 : Int) (a1 : Int) (a2 : Int) : Option (Bool) := if a0 ≥ a1 then (some (decide (a0 ≤ a2))) else (some false)
set_option maxHeartbeats 8000000 in
set_option maxRecDepth 100000 in
theorem lookoutref16_within.calls (a0 : Int) (a1 : Int) (a2 : Int) (r : Bool) (w : World) (h : lookoutref16_within.f a0 a1 a2 = some r) :
    Calls Try.prog 36 #[.int .i64 a0, .int .i64 a1, .int .i64 a2] w fun e w' => e = .returned (.bool r) ∧ Drawn0 w w' := by
  have H : (if a0 ≥ a1 then (some (decide (a0 ≤ a2))) else (some false)) = some r := h
  clear h
  by_cases c4 : a0 ≥ a1
  · rw [if_pos c4] at H
    have c4b0 : decide (a1 ≤ a0) = true := decide_eq_true c4
    clear c4
    obtain rfl := Option.some.inj H
    go_enter Try.func36, Try.ntmps36
    go_wp2
    go_ret
    exact ⟨by first | rfl | (simp; done) | (simp [*]; done), by repeat (first | exact Drawn0.refl _ | apply Drawn0.step)⟩
  · rw [if_neg c4] at H
    have c4b0 : decide (a1 ≤ a0) = false := decide_eq_false c4
    clear c4
    obtain rfl := Option.some.inj H
    go_enter Try.func36, Try.ntmps36
    go_wp2
    go_ret
    exact ⟨by first | rfl | (simp; done) | (simp [*]; done), by repeat (first | exact Drawn0.refl _ | apply Drawn0.step)⟩

end Go.Proofs.Ytdokabaeddaipaa.A
end
section
namespace Go.Proofs.Ytdokabaeddaipaa.A
open Go.RowKit Go.Proofs.YtdokabaeddaipaaW.PrintWords Go.Proofs.YtdokabaeddaipaaW.PrintLast Go.Proofs.YtdokabaeddaipaaW.PrintMore Go.Proofs.Ytdokabaeddaipaa.Hand
attribute [local go_sem] max2_int min2_int max_two min_two max_three min_three max_four min_four   -- for this text's walks alone
set_option linter.unusedVariables false
set_option linter.unusedSimpArgs false

attribute [local go_sem high] eqA25
/-! ### lookoutref16_Check: function 14 -/
mutual
def lookoutref16_Check.j0 : Nat → Bool → Int → Int → Int → Int → Int → Int → Int → Int → Int → Int → Int → Int → Int → Option (Int)
  | 0, _, _, _, _, _, _, _, _, _, _, _, _, _, _ => none
  | k + 1, x22, x108000, x108001, x108002, x108003, x108004, x108005, x108006, x108007, x108008, x108009, x108010, x108011, x108012 => if x22 = true then (some 2) else (if x108001 > x108002 then (some 9) else ((lookoutref16_within.f x108003 (-1099511627776) 1099511627776).bind fun t111 => (if t111 = true then ((lookoutref16_within.f x108004 (-1099511627776) 1099511627776).bind fun t112 => (lookoutref16_Check.j1 k (!t112) x108000 x108001 x108002 x108003 x108004 x108005 x108006 x108007 x108008 x108009 x108010 x108011 x108012)) else (lookoutref16_Check.j1 k true x108000 x108001 x108002 x108003 x108004 x108005 x108006 x108007 x108008 x108009 x108010 x108011 x108012))))
def lookoutref16_Check.j1 : Nat → Bool → Int → Int → Int → Int → Int → Int → Int → Int → Int → Int → Int → Int → Int → Option (Int)
  | 0, _, _, _, _, _, _, _, _, _, _, _, _, _, _ => none
  | k + 1, x37, x108000, x108001, x108002, x108003, x108004, x108005, x108006, x108007, x108008, x108009, x108010, x108011, x108012 => if x37 = true then (some 2) else (if x108003 > x108004 then (some 9) else (some 0))
end
def lookoutref16_Check.f (k : Nat) (a0_0 : Int) (a0_1 : Int) (a0_2 : Int) (a0_3 : Int) (a0_4 : Int) (a0_5 : Int) (a0_6 : Int) (a0_7 : Int) (a0_8 : Int) (a0_9 : Int) (a0_10 : Int) (a0_11 : Int) (a0_12 : Int) : Option (Int) := (lookoutref16_within.f a0_0 0 1152921504606846976).bind fun t108 => (if t108 = true then (if a0_0 = 0 then (if (!(a0_0 == 0) || (!(a0_1 == 0) || (!(a0_2 == 0) || (!(a0_3 == 0) || (!(a0_4 == 0) || ((!(a0_5 == 0) || (!(a0_6 == 0) || (!(a0_7 == 0) || (!(a0_8 == 0) || (!(a0_9 == 0) || (!(a0_10 == 0) || (!(a0_11 == 0) || (!(a0_12 == 0))))))))))))))) = true then (some 10) else (some 0)) else ((lookoutref16_within.f a0_1 1 1099511627776).bind fun t109 => (if t109 = true then ((lookoutref16_within.f a0_2 1 1099511627776).bind fun t110 => (lookoutref16_Check.j0 k (!t110) a0_0 a0_1 a0_2 a0_3 a0_4 a0_5 a0_6 a0_7 a0_8 a0_9 a0_10 a0_11 a0_12)) else (lookoutref16_Check.j0 k true a0_0 a0_1 a0_2 a0_3 a0_4 a0_5 a0_6 a0_7 a0_8 a0_9 a0_10 a0_11 a0_12)))) else (some 2))
theorem lookoutref16_Check.mono_l : ∀ k, (∀ y0 y1 y2 y3 y4 y5 y6 y7 y8 y9 y10 y11 y12 y13, LeO (lookoutref16_Check.j0 k y0 y1 y2 y3 y4 y5 y6 y7 y8 y9 y10 y11 y12 y13) (lookoutref16_Check.j0 (k + 1) y0 y1 y2 y3 y4 y5 y6 y7 y8 y9 y10 y11 y12 y13)) ∧ (∀ y0 y1 y2 y3 y4 y5 y6 y7 y8 y9 y10 y11 y12 y13, LeO (lookoutref16_Check.j1 k y0 y1 y2 y3 y4 y5 y6 y7 y8 y9 y10 y11 y12 y13) (lookoutref16_Check.j1 (k + 1) y0 y1 y2 y3 y4 y5 y6 y7 y8 y9 y10 y11 y12 y13))
  | 0 => ⟨fun _ _ _ _ _ _ _ _ _ _ _ _ _ _ r h => by simp [lookoutref16_Check.j0] at h, fun _ _ _ _ _ _ _ _ _ _ _ _ _ _ r h => by simp [lookoutref16_Check.j1] at h⟩
  | k + 1 => by
    obtain ⟨ih0, ih1⟩ := lookoutref16_Check.mono_l k
    refine ⟨?_, ?_⟩
    · intro y0 y1 y2 y3 y4 y5 y6 y7 y8 y9 y10 y11 y12 y13
      unfold lookoutref16_Check.j0
      repeat' first
      | (with_reducible exact ih0 _ _ _ _ _ _ _ _ _ _ _ _ _ _)
      | (with_reducible exact ih1 _ _ _ _ _ _ _ _ _ _ _ _ _ _)
      | (with_reducible exact LeO.refl _)
      | (with_reducible exact LeO.none _)
      | (with_reducible refine LeO.ite ?_ ?_)
      | (with_reducible refine LeO.bind ?_ (fun _ => ?_))
      | exact ih0 _ _ _ _ _ _ _ _ _ _ _ _ _ _
      | exact ih1 _ _ _ _ _ _ _ _ _ _ _ _ _ _
      | exact LeO.none _
      | refine LeO.ite ?_ ?_
      | refine LeO.bind ?_ (fun _ => ?_)
    · intro y0 y1 y2 y3 y4 y5 y6 y7 y8 y9 y10 y11 y12 y13
      unfold lookoutref16_Check.j1
      repeat' first
      | (with_reducible exact ih0 _ _ _ _ _ _ _ _ _ _ _ _ _ _)
      | (with_reducible exact ih1 _ _ _ _ _ _ _ _ _ _ _ _ _ _)
      | (with_reducible exact LeO.refl _)
      | (with_reducible exact LeO.none _)
      | (with_reducible refine LeO.ite ?_ ?_)
      | (with_reducible refine LeO.bind ?_ (fun _ => ?_))
      | exact ih0 _ _ _ _ _ _ _ _ _ _ _ _ _ _
      | exact ih1 _ _ _ _ _ _ _ _ _ _ _ _ _ _
      | exact LeO.none _
      | refine LeO.ite ?_ ?_
      | refine LeO.bind ?_ (fun _ => ?_)
theorem lookoutref16_Check.mono : ∀ a0 a1 a2 a3 a4 a5 a6 a7 a8 a9 a10 a11 a12 k, LeO (lookoutref16_Check.f k a0 a1 a2 a3 a4 a5 a6 a7 a8 a9 a10 a11 a12) (lookoutref16_Check.f (k + 1) a0 a1 a2 a3 a4 a5 a6 a7 a8 a9 a10 a11 a12) := by
  intro a0 a1 a2 a3 a4 a5 a6 a7 a8 a9 a10 a11 a12 k
  obtain ⟨ih0, ih1⟩ := lookoutref16_Check.mono_l k
  unfold lookoutref16_Check.f
  repeat' first
      | (with_reducible exact ih0 _ _ _ _ _ _ _ _ _ _ _ _ _ _)
      | (with_reducible exact ih1 _ _ _ _ _ _ _ _ _ _ _ _ _ _)
      | (with_reducible exact LeO.refl _)
      | (with_reducible exact LeO.none _)
      | (with_reducible refine LeO.ite ?_ ?_)
      | (with_reducible refine LeO.bind ?_ (fun _ => ?_))
      | exact ih0 _ _ _ _ _ _ _ _ _ _ _ _ _ _
      | exact ih1 _ _ _ _ _ _ _ _ _ _ _ _ _ _
      | exact LeO.none _
      | refine LeO.ite ?_ ?_
      | refine LeO.bind ?_ (fun _ => ?_)
set_option maxHeartbeats 8000000 in
set_option maxRecDepth 100000 in
theorem lookoutref16_Check.calls (k : Nat) (a0_0 : Int) (a0_1 : Int) (a0_2 : Int) (a0_3 : Int) (a0_4 : Int) (a0_5 : Int) (a0_6 : Int) (a0_7 : Int) (a0_8 : Int) (a0_9 : Int) (a0_10 : Int) (a0_11 : Int) (a0_12 : Int) (r : Int) (w : World) (h : lookoutref16_Check.f k a0_0 a0_1 a0_2 a0_3 a0_4 a0_5 a0_6 a0_7 a0_8 a0_9 a0_10 a0_11 a0_12 = some r) :
    Calls Try.prog 14 #[.agg #[.int .i64 a0_0, .int .i64 a0_1, .int .i64 a0_2, .int .i64 a0_3, .int .i64 a0_4, .int .u32 a0_5, .int .u32 a0_6, .int .u32 a0_7, .int .u32 a0_8, .int .u32 a0_9, .int .u32 a0_10, .int .u32 a0_11, .int .u32 a0_12]] w fun e w' => e = .returned (.int .i64 r) ∧ Below w.heap.size w w' := by
  have hu25 := Try.underlying25
  have HB := Aside0.mk (Below.refl w.heap.size w)
  have H : ((lookoutref16_within.f a0_0 0 1152921504606846976).bind fun t108 => (if t108 = true then (if a0_0 = 0 then (if (!(a0_0 == 0) || (!(a0_1 == 0) || (!(a0_2 == 0) || (!(a0_3 == 0) || (!(a0_4 == 0) || ((!(a0_5 == 0) || (!(a0_6 == 0) || (!(a0_7 == 0) || (!(a0_8 == 0) || (!(a0_9 == 0) || (!(a0_10 == 0) || (!(a0_11 == 0) || (!(a0_12 == 0))))))))))))))) = true then (some 10) else (some 0)) else ((lookoutref16_within.f a0_1 1 1099511627776).bind fun t109 => (if t109 = true then ((lookoutref16_within.f a0_2 1 1099511627776).bind fun t110 => (lookoutref16_Check.j0 k (!t110) a0_0 a0_1 a0_2 a0_3 a0_4 a0_5 a0_6 a0_7 a0_8 a0_9 a0_10 a0_11 a0_12)) else (lookoutref16_Check.j0 k true a0_0 a0_1 a0_2 a0_3 a0_4 a0_5 a0_6 a0_7 a0_8 a0_9 a0_10 a0_11 a0_12)))) else (some 2))) = some r := h
  clear h
  replace H := Option.bind_eq_some_iff.mp H
  obtain ⟨t108, A20, H⟩ := H
  replace H : (if t108 = true then (if a0_0 = 0 then (if (!(a0_0 == 0) || (!(a0_1 == 0) || (!(a0_2 == 0) || (!(a0_3 == 0) || (!(a0_4 == 0) || ((!(a0_5 == 0) || (!(a0_6 == 0) || (!(a0_7 == 0) || (!(a0_8 == 0) || (!(a0_9 == 0) || (!(a0_10 == 0) || (!(a0_11 == 0) || (!(a0_12 == 0))))))))))))))) = true then (some 10) else (some 0)) else ((lookoutref16_within.f a0_1 1 1099511627776).bind fun t109 => (if t109 = true then ((lookoutref16_within.f a0_2 1 1099511627776).bind fun t110 => (lookoutref16_Check.j0 k (!t110) a0_0 a0_1 a0_2 a0_3 a0_4 a0_5 a0_6 a0_7 a0_8 a0_9 a0_10 a0_11 a0_12)) else (lookoutref16_Check.j0 k true a0_0 a0_1 a0_2 a0_3 a0_4 a0_5 a0_6 a0_7 a0_8 a0_9 a0_10 a0_11 a0_12)))) else (some 2)) = some r := H
  have A2 := Aside0.mk A20
  clear A20
  by_cases c3 : t108 = true
  · subst c3
    have H1 : (if a0_0 = 0 then (if (!(a0_0 == 0) || (!(a0_1 == 0) || (!(a0_2 == 0) || (!(a0_3 == 0) || (!(a0_4 == 0) || ((!(a0_5 == 0) || (!(a0_6 == 0) || (!(a0_7 == 0) || (!(a0_8 == 0) || (!(a0_9 == 0) || (!(a0_10 == 0) || (!(a0_11 == 0) || (!(a0_12 == 0))))))))))))))) = true then (some 10) else (some 0)) else ((lookoutref16_within.f a0_1 1 1099511627776).bind fun t109 => (if t109 = true then ((lookoutref16_within.f a0_2 1 1099511627776).bind fun t110 => (lookoutref16_Check.j0 k (!t110) a0_0 a0_1 a0_2 a0_3 a0_4 a0_5 a0_6 a0_7 a0_8 a0_9 a0_10 a0_11 a0_12)) else (lookoutref16_Check.j0 k true a0_0 a0_1 a0_2 a0_3 a0_4 a0_5 a0_6 a0_7 a0_8 a0_9 a0_10 a0_11 a0_12)))) = some r := by rw [if_pos rfl] at H; exact H
    clear H
    have H := H1
    clear H1
    by_cases c4 : a0_0 = 0
    · rw [if_pos c4] at H
      have c4b0 : (a0_0 == 0) = true := beq_iff_eq.mpr c4
      have c4b1 : (a0_0 != 0) = false := bne_eq_false_iff_eq.mpr c4
      clear c4
      by_cases c5 : (!(a0_0 == 0) || (!(a0_1 == 0) || (!(a0_2 == 0) || (!(a0_3 == 0) || (!(a0_4 == 0) || ((!(a0_5 == 0) || (!(a0_6 == 0) || (!(a0_7 == 0) || (!(a0_8 == 0) || (!(a0_9 == 0) || (!(a0_10 == 0) || (!(a0_11 == 0) || (!(a0_12 == 0))))))))))))))) = true
      · rw [if_pos c5] at H
        have c5b0 : (!(a0_0 == 0) || (!(a0_1 == 0) || (!(a0_2 == 0) || (!(a0_3 == 0) || (!(a0_4 == 0) || ((!(a0_5 == 0) || (!(a0_6 == 0) || (!(a0_7 == 0) || (!(a0_8 == 0) || (!(a0_9 == 0) || (!(a0_10 == 0) || (!(a0_11 == 0) || (!(a0_12 == 0))))))))))))))) = true := c5
        try have c5b0_ := by have h := c5b0; simp only [c4b0, Bool.not_true, Bool.not_false, Bool.false_or, Bool.true_and] at h; exact h
        clear c5
        obtain rfl := Option.some.inj H
        go_enter Try.func14, Try.ntmps14
        go_wp2_with (first | ((with_reducible refine gate_dst (N := 1) rfl ?_); refine box_event ?hg (N := 1) ?hd (cs := #[.int .i64 a0_0, .int .i64 a0_1, .int .i64 a0_2, .int .i64 a0_3, .int .i64 a0_4, .int .u32 a0_5, .int .u32 a0_6, .int .u32 a0_7, .int .u32 a0_8, .int .u32 a0_9, .int .u32 a0_10, .int .u32 a0_11, .int .u32 a0_12]) (t := 25) ?hr ?_; (case hd => rfl); (case hg => rfl); (case hr => first | (go_simp; done) | (go_simp; rfl)); intro gb107 hg w6 hbox hb; have n0_ := Aside0.mk (below_step (by repeat (first | (with_reducible first | exact HB.out | apply below_alloc | apply pw_below_drewN | apply below_drew1) | exact HB.out)) hb); have n1_ := Aside0.mk (hbox); have n2_ := Aside0.mk ((by rw [hg]; exact (below_size (by repeat (first | (with_reducible first | exact HB.out | apply below_alloc | apply pw_below_drewN | apply below_drew1) | exact HB.out))) : w.heap.size ≤ gb107)); have n3_ := Aside0.mk ((by rw [hg]; exact (below_size (by repeat (first | (with_reducible first | exact HB.out | apply below_alloc | apply pw_below_drewN | apply below_drew1) | exact HB.out))) : w.heap.size ≤ gb107)); clear HB; have HB := n0_; have BK107 := n1_; have GW107 := n2_; have GE107 := n3_; clear n0_ n1_ n2_ n3_; clear hb hbox hg; have hcz7_0 : w6.cell? ⟨gb107, 0, none⟩ = some (.int .i64 a0_0) := (blk_cell BK107.out 0).trans rfl; have hcz7_1 : w6.cell? ⟨gb107, 1, none⟩ = some (.int .i64 a0_1) := (blk_cell BK107.out 1).trans rfl; have hcz7_2 : w6.cell? ⟨gb107, 2, none⟩ = some (.int .i64 a0_2) := (blk_cell BK107.out 2).trans rfl; have hcz7_3 : w6.cell? ⟨gb107, 3, none⟩ = some (.int .i64 a0_3) := (blk_cell BK107.out 3).trans rfl; have hcz7_4 : w6.cell? ⟨gb107, 4, none⟩ = some (.int .i64 a0_4) := (blk_cell BK107.out 4).trans rfl; have hcz7_5 : w6.cell? ⟨gb107, 5, none⟩ = some (.int .u32 a0_5) := (blk_cell BK107.out 5).trans rfl; have hcz7_6 : w6.cell? ⟨gb107, 6, none⟩ = some (.int .u32 a0_6) := (blk_cell BK107.out 6).trans rfl; have hcz7_7 : w6.cell? ⟨gb107, 7, none⟩ = some (.int .u32 a0_7) := (blk_cell BK107.out 7).trans rfl; have hcz7_8 : w6.cell? ⟨gb107, 8, none⟩ = some (.int .u32 a0_8) := (blk_cell BK107.out 8).trans rfl; have hcz7_9 : w6.cell? ⟨gb107, 9, none⟩ = some (.int .u32 a0_9) := (blk_cell BK107.out 9).trans rfl; have hcz7_10 : w6.cell? ⟨gb107, 10, none⟩ = some (.int .u32 a0_10) := (blk_cell BK107.out 10).trans rfl; have hcz7_11 : w6.cell? ⟨gb107, 11, none⟩ = some (.int .u32 a0_11) := (blk_cell BK107.out 11).trans rfl; have hcz7_12 : w6.cell? ⟨gb107, 12, none⟩ = some (.int .u32 a0_12) := (blk_cell BK107.out 12).trans rfl; have hfz7_0 := blk_frozen BK107.out 0; have hfz7_1 := blk_frozen BK107.out 1; have hfz7_2 := blk_frozen BK107.out 2; have hfz7_3 := blk_frozen BK107.out 3; have hfz7_4 := blk_frozen BK107.out 4; have hfz7_5 := blk_frozen BK107.out 5; have hfz7_6 := blk_frozen BK107.out 6; have hfz7_7 := blk_frozen BK107.out 7; have hfz7_8 := blk_frozen BK107.out 8; have hfz7_9 := blk_frozen BK107.out 9; have hfz7_10 := blk_frozen BK107.out 10; have hfz7_11 := blk_frozen BK107.out 11; have hfz7_12 := blk_frozen BK107.out 12) | ((with_reducible refine gate_callee (f := 36) rfl ?_); refine goesL_ (some 5) rfl rfl Try.func36 (by kernel_rfl) rfl #[.int .i64 a0_0, .int .i64 0, .int .i64 1152921504606846976] rfl (by (try simp only [List.map_toArray, List.map_cons, List.map_nil]); first | done | rfl | (simp only [List.length_drop, List.length_take]; rfl)) ?_; (with_reducible refine (lookoutref16_within.calls a0_0 0 1152921504606846976 true _ A2.out).mono ?_); rintro e w' ⟨rfl, ⟨nd, rfl⟩⟩; refine ⟨_, rfl, ?_⟩))
        go_ret
        exact ⟨by first | rfl | (simp [errW_none, errW_some] <;> rfl) | (simp [*, errW_none, errW_some] <;> rfl), by repeat (first | (with_reducible first | exact HB.out | apply below_alloc | apply pw_below_drewN | apply below_drew1 | refine below_set ?_ GE107.out) | exact HB.out)⟩
      · rw [if_neg c5] at H
        have c5b0 : (!(a0_0 == 0) || (!(a0_1 == 0) || (!(a0_2 == 0) || (!(a0_3 == 0) || (!(a0_4 == 0) || ((!(a0_5 == 0) || (!(a0_6 == 0) || (!(a0_7 == 0) || (!(a0_8 == 0) || (!(a0_9 == 0) || (!(a0_10 == 0) || (!(a0_11 == 0) || (!(a0_12 == 0))))))))))))))) = false := by simpa using c5
        try have c5b0_ := by have h := c5b0; simp only [c4b0, Bool.not_true, Bool.not_false, Bool.false_or, Bool.true_and] at h; exact h
        clear c5
        obtain rfl := Option.some.inj H
        go_enter Try.func14, Try.ntmps14
        go_wp2_with (first | ((with_reducible refine gate_dst (N := 1) rfl ?_); refine box_event ?hg (N := 1) ?hd (cs := #[.int .i64 a0_0, .int .i64 a0_1, .int .i64 a0_2, .int .i64 a0_3, .int .i64 a0_4, .int .u32 a0_5, .int .u32 a0_6, .int .u32 a0_7, .int .u32 a0_8, .int .u32 a0_9, .int .u32 a0_10, .int .u32 a0_11, .int .u32 a0_12]) (t := 25) ?hr ?_; (case hd => rfl); (case hg => rfl); (case hr => first | (go_simp; done) | (go_simp; rfl)); intro gb107 hg w8 hbox hb; have n0_ := Aside0.mk (below_step (by repeat (first | (with_reducible first | exact HB.out | apply below_alloc | apply pw_below_drewN | apply below_drew1) | exact HB.out)) hb); have n1_ := Aside0.mk (hbox); have n2_ := Aside0.mk ((by rw [hg]; exact (below_size (by repeat (first | (with_reducible first | exact HB.out | apply below_alloc | apply pw_below_drewN | apply below_drew1) | exact HB.out))) : w.heap.size ≤ gb107)); have n3_ := Aside0.mk ((by rw [hg]; exact (below_size (by repeat (first | (with_reducible first | exact HB.out | apply below_alloc | apply pw_below_drewN | apply below_drew1) | exact HB.out))) : w.heap.size ≤ gb107)); clear HB; have HB := n0_; have BK107 := n1_; have GW107 := n2_; have GE107 := n3_; clear n0_ n1_ n2_ n3_; clear hb hbox hg; have hcz9_0 : w8.cell? ⟨gb107, 0, none⟩ = some (.int .i64 a0_0) := (blk_cell BK107.out 0).trans rfl; have hcz9_1 : w8.cell? ⟨gb107, 1, none⟩ = some (.int .i64 a0_1) := (blk_cell BK107.out 1).trans rfl; have hcz9_2 : w8.cell? ⟨gb107, 2, none⟩ = some (.int .i64 a0_2) := (blk_cell BK107.out 2).trans rfl; have hcz9_3 : w8.cell? ⟨gb107, 3, none⟩ = some (.int .i64 a0_3) := (blk_cell BK107.out 3).trans rfl; have hcz9_4 : w8.cell? ⟨gb107, 4, none⟩ = some (.int .i64 a0_4) := (blk_cell BK107.out 4).trans rfl; have hcz9_5 : w8.cell? ⟨gb107, 5, none⟩ = some (.int .u32 a0_5) := (blk_cell BK107.out 5).trans rfl; have hcz9_6 : w8.cell? ⟨gb107, 6, none⟩ = some (.int .u32 a0_6) := (blk_cell BK107.out 6).trans rfl; have hcz9_7 : w8.cell? ⟨gb107, 7, none⟩ = some (.int .u32 a0_7) := (blk_cell BK107.out 7).trans rfl; have hcz9_8 : w8.cell? ⟨gb107, 8, none⟩ = some (.int .u32 a0_8) := (blk_cell BK107.out 8).trans rfl; have hcz9_9 : w8.cell? ⟨gb107, 9, none⟩ = some (.int .u32 a0_9) := (blk_cell BK107.out 9).trans rfl; have hcz9_10 : w8.cell? ⟨gb107, 10, none⟩ = some (.int .u32 a0_10) := (blk_cell BK107.out 10).trans rfl; have hcz9_11 : w8.cell? ⟨gb107, 11, none⟩ = some (.int .u32 a0_11) := (blk_cell BK107.out 11).trans rfl; have hcz9_12 : w8.cell? ⟨gb107, 12, none⟩ = some (.int .u32 a0_12) := (blk_cell BK107.out 12).trans rfl; have hfz9_0 := blk_frozen BK107.out 0; have hfz9_1 := blk_frozen BK107.out 1; have hfz9_2 := blk_frozen BK107.out 2; have hfz9_3 := blk_frozen BK107.out 3; have hfz9_4 := blk_frozen BK107.out 4; have hfz9_5 := blk_frozen BK107.out 5; have hfz9_6 := blk_frozen BK107.out 6; have hfz9_7 := blk_frozen BK107.out 7; have hfz9_8 := blk_frozen BK107.out 8; have hfz9_9 := blk_frozen BK107.out 9; have hfz9_10 := blk_frozen BK107.out 10; have hfz9_11 := blk_frozen BK107.out 11; have hfz9_12 := blk_frozen BK107.out 12) | ((with_reducible refine gate_callee (f := 36) rfl ?_); refine goesL_ (some 5) rfl rfl Try.func36 (by kernel_rfl) rfl #[.int .i64 a0_0, .int .i64 0, .int .i64 1152921504606846976] rfl (by (try simp only [List.map_toArray, List.map_cons, List.map_nil]); first | done | rfl | (simp only [List.length_drop, List.length_take]; rfl)) ?_; (with_reducible refine (lookoutref16_within.calls a0_0 0 1152921504606846976 true _ A2.out).mono ?_); rintro e w' ⟨rfl, ⟨nd, rfl⟩⟩; refine ⟨_, rfl, ?_⟩))
        go_ret
        exact ⟨by first | rfl | (simp [errW_none, errW_some] <;> rfl) | (simp [*, errW_none, errW_some] <;> rfl), by repeat (first | (with_reducible first | exact HB.out | apply below_alloc | apply pw_below_drewN | apply below_drew1 | refine below_set ?_ GE107.out) | exact HB.out)⟩
    · rw [if_neg c4] at H
      have c4b0 : (a0_0 == 0) = false := beq_eq_false_iff_ne.mpr c4
      have c4b1 : (a0_0 != 0) = true := bne_iff_ne.mpr c4
      have HC10 := Aside0.mk H
      clear H
      go_enter Try.func14, Try.ntmps14
      go_upto_region 7 with (first | ((with_reducible refine gate_dst (N := 1) rfl ?_); refine box_event ?hg (N := 1) ?hd (cs := #[.int .i64 a0_0, .int .i64 a0_1, .int .i64 a0_2, .int .i64 a0_3, .int .i64 a0_4, .int .u32 a0_5, .int .u32 a0_6, .int .u32 a0_7, .int .u32 a0_8, .int .u32 a0_9, .int .u32 a0_10, .int .u32 a0_11, .int .u32 a0_12]) (t := 25) ?hr ?_; (case hd => rfl); (case hg => rfl); (case hr => first | (go_simp; done) | (go_simp; rfl)); intro gb107 hg w11 hbox hb; have n0_ := Aside0.mk (below_step (by repeat (first | (with_reducible first | exact HB.out | apply below_alloc | apply pw_below_drewN | apply below_drew1) | exact HB.out)) hb); have n1_ := Aside0.mk (hbox); have n2_ := Aside0.mk ((by rw [hg]; exact (below_size (by repeat (first | (with_reducible first | exact HB.out | apply below_alloc | apply pw_below_drewN | apply below_drew1) | exact HB.out))) : w.heap.size ≤ gb107)); have n3_ := Aside0.mk ((by rw [hg]; exact (below_size (by repeat (first | (with_reducible first | exact HB.out | apply below_alloc | apply pw_below_drewN | apply below_drew1) | exact HB.out))) : w.heap.size ≤ gb107)); clear HB; have HB := n0_; have BK107 := n1_; have GW107 := n2_; have GE107 := n3_; clear n0_ n1_ n2_ n3_; clear hb hbox hg; have hcz12_0 : w11.cell? ⟨gb107, 0, none⟩ = some (.int .i64 a0_0) := (blk_cell BK107.out 0).trans rfl; have hcz12_1 : w11.cell? ⟨gb107, 1, none⟩ = some (.int .i64 a0_1) := (blk_cell BK107.out 1).trans rfl; have hcz12_2 : w11.cell? ⟨gb107, 2, none⟩ = some (.int .i64 a0_2) := (blk_cell BK107.out 2).trans rfl; have hcz12_3 : w11.cell? ⟨gb107, 3, none⟩ = some (.int .i64 a0_3) := (blk_cell BK107.out 3).trans rfl; have hcz12_4 : w11.cell? ⟨gb107, 4, none⟩ = some (.int .i64 a0_4) := (blk_cell BK107.out 4).trans rfl; have hcz12_5 : w11.cell? ⟨gb107, 5, none⟩ = some (.int .u32 a0_5) := (blk_cell BK107.out 5).trans rfl; have hcz12_6 : w11.cell? ⟨gb107, 6, none⟩ = some (.int .u32 a0_6) := (blk_cell BK107.out 6).trans rfl; have hcz12_7 : w11.cell? ⟨gb107, 7, none⟩ = some (.int .u32 a0_7) := (blk_cell BK107.out 7).trans rfl; have hcz12_8 : w11.cell? ⟨gb107, 8, none⟩ = some (.int .u32 a0_8) := (blk_cell BK107.out 8).trans rfl; have hcz12_9 : w11.cell? ⟨gb107, 9, none⟩ = some (.int .u32 a0_9) := (blk_cell BK107.out 9).trans rfl; have hcz12_10 : w11.cell? ⟨gb107, 10, none⟩ = some (.int .u32 a0_10) := (blk_cell BK107.out 10).trans rfl; have hcz12_11 : w11.cell? ⟨gb107, 11, none⟩ = some (.int .u32 a0_11) := (blk_cell BK107.out 11).trans rfl; have hcz12_12 : w11.cell? ⟨gb107, 12, none⟩ = some (.int .u32 a0_12) := (blk_cell BK107.out 12).trans rfl; have hfz12_0 := blk_frozen BK107.out 0; have hfz12_1 := blk_frozen BK107.out 1; have hfz12_2 := blk_frozen BK107.out 2; have hfz12_3 := blk_frozen BK107.out 3; have hfz12_4 := blk_frozen BK107.out 4; have hfz12_5 := blk_frozen BK107.out 5; have hfz12_6 := blk_frozen BK107.out 6; have hfz12_7 := blk_frozen BK107.out 7; have hfz12_8 := blk_frozen BK107.out 8; have hfz12_9 := blk_frozen BK107.out 9; have hfz12_10 := blk_frozen BK107.out 10; have hfz12_11 := blk_frozen BK107.out 11; have hfz12_12 := blk_frozen BK107.out 12) | ((with_reducible refine gate_callee (f := 36) rfl ?_); refine goesL_ (some 5) rfl rfl Try.func36 (by kernel_rfl) rfl #[.int .i64 a0_0, .int .i64 0, .int .i64 1152921504606846976] rfl (by (try simp only [List.map_toArray, List.map_cons, List.map_nil]); first | done | rfl | (simp only [List.length_drop, List.length_take]; rfl)) ?_; (with_reducible refine (lookoutref16_within.calls a0_0 0 1152921504606846976 true _ A2.out).mono ?_); rintro e w' ⟨rfl, ⟨nd, rfl⟩⟩; refine ⟨_, rfl, ?_⟩))
      (try simp only [Act.put, List.setIfInBounds_toArray, List.set_cons_zero, List.set_cons_succ])
      go_cut [22] (fun v22 wc => ∃ (kq : Nat) (x22_9 : Bool), v22 = .bool x22_9 ∧ Aside0 (lookoutref16_Check.j0 kq x22_9 a0_0 a0_1 a0_2 a0_3 a0_4 a0_5 a0_6 a0_7 a0_8 a0_9 a0_10 a0_11 a0_12 = some r) ∧ Aside0 (kq ≤ k) ∧ Aside0 (wc.heap[gb107]? = some (.cells #[.int .i64 a0_0, .int .i64 a0_1, .int .i64 a0_2, .int .i64 a0_3, .int .i64 a0_4, .int .u32 a0_5, .int .u32 a0_6, .int .u32 a0_7, .int .u32 a0_8, .int .u32 a0_9, .int .u32 a0_10, .int .u32 a0_11, .int .u32 a0_12] 25 (0, 0))) ∧ Aside0 (Below w.heap.size w wc))
      case first =>
        have H := HC10.out
        clear HC10
        replace H := Option.bind_eq_some_iff.mp H
        obtain ⟨t109, A130, H⟩ := H
        replace H : (if t109 = true then ((lookoutref16_within.f a0_2 1 1099511627776).bind fun t110 => (lookoutref16_Check.j0 k (!t110) a0_0 a0_1 a0_2 a0_3 a0_4 a0_5 a0_6 a0_7 a0_8 a0_9 a0_10 a0_11 a0_12)) else (lookoutref16_Check.j0 k true a0_0 a0_1 a0_2 a0_3 a0_4 a0_5 a0_6 a0_7 a0_8 a0_9 a0_10 a0_11 a0_12)) = some r := H
        have A13 := Aside0.mk A130
        clear A130
        by_cases c14 : t109 = true
        · subst c14
          have H1 : ((lookoutref16_within.f a0_2 1 1099511627776).bind fun t110 => (lookoutref16_Check.j0 k (!t110) a0_0 a0_1 a0_2 a0_3 a0_4 a0_5 a0_6 a0_7 a0_8 a0_9 a0_10 a0_11 a0_12)) = some r := by rw [if_pos rfl] at H; exact H
          clear H
          have H := H1
          clear H1
          replace H := Option.bind_eq_some_iff.mp H
          obtain ⟨t110, A150, H⟩ := H
          replace H : (lookoutref16_Check.j0 k (!t110) a0_0 a0_1 a0_2 a0_3 a0_4 a0_5 a0_6 a0_7 a0_8 a0_9 a0_10 a0_11 a0_12) = some r := H
          have A15 := Aside0.mk A150
          clear A150
          have H' := Aside0.mk H
          clear H
          have hcz16_0 : w11.cell? ⟨gb107, 0, none⟩ = some (.int .i64 a0_0) := (blk_cell BK107.out 0).trans rfl
          have hcz16_1 : w11.cell? ⟨gb107, 1, none⟩ = some (.int .i64 a0_1) := (blk_cell BK107.out 1).trans rfl
          have hcz16_2 : w11.cell? ⟨gb107, 2, none⟩ = some (.int .i64 a0_2) := (blk_cell BK107.out 2).trans rfl
          have hcz16_3 : w11.cell? ⟨gb107, 3, none⟩ = some (.int .i64 a0_3) := (blk_cell BK107.out 3).trans rfl
          have hcz16_4 : w11.cell? ⟨gb107, 4, none⟩ = some (.int .i64 a0_4) := (blk_cell BK107.out 4).trans rfl
          have hcz16_5 : w11.cell? ⟨gb107, 5, none⟩ = some (.int .u32 a0_5) := (blk_cell BK107.out 5).trans rfl
          have hcz16_6 : w11.cell? ⟨gb107, 6, none⟩ = some (.int .u32 a0_6) := (blk_cell BK107.out 6).trans rfl
          have hcz16_7 : w11.cell? ⟨gb107, 7, none⟩ = some (.int .u32 a0_7) := (blk_cell BK107.out 7).trans rfl
          have hcz16_8 : w11.cell? ⟨gb107, 8, none⟩ = some (.int .u32 a0_8) := (blk_cell BK107.out 8).trans rfl
          have hcz16_9 : w11.cell? ⟨gb107, 9, none⟩ = some (.int .u32 a0_9) := (blk_cell BK107.out 9).trans rfl
          have hcz16_10 : w11.cell? ⟨gb107, 10, none⟩ = some (.int .u32 a0_10) := (blk_cell BK107.out 10).trans rfl
          have hcz16_11 : w11.cell? ⟨gb107, 11, none⟩ = some (.int .u32 a0_11) := (blk_cell BK107.out 11).trans rfl
          have hcz16_12 : w11.cell? ⟨gb107, 12, none⟩ = some (.int .u32 a0_12) := (blk_cell BK107.out 12).trans rfl
          have hfz16_0 := blk_frozen BK107.out 0
          have hfz16_1 := blk_frozen BK107.out 1
          have hfz16_2 := blk_frozen BK107.out 2
          have hfz16_3 := blk_frozen BK107.out 3
          have hfz16_4 := blk_frozen BK107.out 4
          have hfz16_5 := blk_frozen BK107.out 5
          have hfz16_6 := blk_frozen BK107.out 6
          have hfz16_7 := blk_frozen BK107.out 7
          have hfz16_8 := blk_frozen BK107.out 8
          have hfz16_9 := blk_frozen BK107.out 9
          have hfz16_10 := blk_frozen BK107.out 10
          have hfz16_11 := blk_frozen BK107.out 11
          have hfz16_12 := blk_frozen BK107.out 12
          go_wp2_with (first | ((with_reducible refine gate_callee (f := 36) rfl ?_); refine goesL_ (some 15) rfl rfl Try.func36 (by kernel_rfl) rfl #[.int .i64 a0_1, .int .i64 1, .int .i64 1099511627776] rfl (by (try simp only [List.map_toArray, List.map_cons, List.map_nil]); first | done | rfl | (simp only [List.length_drop, List.length_take]; rfl)) ?_; (with_reducible refine (lookoutref16_within.calls a0_1 1 1099511627776 true _ A13.out).mono ?_); rintro e w' ⟨rfl, ⟨nd, rfl⟩⟩; refine ⟨_, rfl, ?_⟩) | (go_at_call 36; (with_reducible refine (lookoutref16_within.calls a0_2 1 1099511627776 t110 _ A15.out).mono ?_); rintro e w' ⟨rfl, ⟨nd, rfl⟩⟩))
          go_meet
          case rel => exact ⟨_, (!t110), (by first | rfl | (simp; done) | (simp [*]; done)), H', ⟨by first | omega | exact Nat.le_refl _⟩, ⟨by (with_reducible repeat (first | refine blk_drewN ?_ _ | refine blk_drew ?_ | refine blk_alloc ?_ _)); exact BK107.out⟩, ⟨by repeat (first | (with_reducible first | exact HB.out | apply below_alloc | apply pw_below_drewN | apply below_drew1 | refine below_set ?_ GE107.out) | exact HB.out)⟩⟩
        · replace c14 := Bool.eq_false_iff.mpr c14
          subst c14
          have H1 : (lookoutref16_Check.j0 k true a0_0 a0_1 a0_2 a0_3 a0_4 a0_5 a0_6 a0_7 a0_8 a0_9 a0_10 a0_11 a0_12) = some r := by rw [if_neg (show ¬ (false = true) by decide)] at H; exact H
          clear H
          have H := H1
          clear H1
          have H' := Aside0.mk H
          clear H
          have hcz17_0 : w11.cell? ⟨gb107, 0, none⟩ = some (.int .i64 a0_0) := (blk_cell BK107.out 0).trans rfl
          have hcz17_1 : w11.cell? ⟨gb107, 1, none⟩ = some (.int .i64 a0_1) := (blk_cell BK107.out 1).trans rfl
          have hcz17_2 : w11.cell? ⟨gb107, 2, none⟩ = some (.int .i64 a0_2) := (blk_cell BK107.out 2).trans rfl
          have hcz17_3 : w11.cell? ⟨gb107, 3, none⟩ = some (.int .i64 a0_3) := (blk_cell BK107.out 3).trans rfl
          have hcz17_4 : w11.cell? ⟨gb107, 4, none⟩ = some (.int .i64 a0_4) := (blk_cell BK107.out 4).trans rfl
          have hcz17_5 : w11.cell? ⟨gb107, 5, none⟩ = some (.int .u32 a0_5) := (blk_cell BK107.out 5).trans rfl
          have hcz17_6 : w11.cell? ⟨gb107, 6, none⟩ = some (.int .u32 a0_6) := (blk_cell BK107.out 6).trans rfl
          have hcz17_7 : w11.cell? ⟨gb107, 7, none⟩ = some (.int .u32 a0_7) := (blk_cell BK107.out 7).trans rfl
          have hcz17_8 : w11.cell? ⟨gb107, 8, none⟩ = some (.int .u32 a0_8) := (blk_cell BK107.out 8).trans rfl
          have hcz17_9 : w11.cell? ⟨gb107, 9, none⟩ = some (.int .u32 a0_9) := (blk_cell BK107.out 9).trans rfl
          have hcz17_10 : w11.cell? ⟨gb107, 10, none⟩ = some (.int .u32 a0_10) := (blk_cell BK107.out 10).trans rfl
          have hcz17_11 : w11.cell? ⟨gb107, 11, none⟩ = some (.int .u32 a0_11) := (blk_cell BK107.out 11).trans rfl
          have hcz17_12 : w11.cell? ⟨gb107, 12, none⟩ = some (.int .u32 a0_12) := (blk_cell BK107.out 12).trans rfl
          have hfz17_0 := blk_frozen BK107.out 0
          have hfz17_1 := blk_frozen BK107.out 1
          have hfz17_2 := blk_frozen BK107.out 2
          have hfz17_3 := blk_frozen BK107.out 3
          have hfz17_4 := blk_frozen BK107.out 4
          have hfz17_5 := blk_frozen BK107.out 5
          have hfz17_6 := blk_frozen BK107.out 6
          have hfz17_7 := blk_frozen BK107.out 7
          have hfz17_8 := blk_frozen BK107.out 8
          have hfz17_9 := blk_frozen BK107.out 9
          have hfz17_10 := blk_frozen BK107.out 10
          have hfz17_11 := blk_frozen BK107.out 11
          have hfz17_12 := blk_frozen BK107.out 12
          go_wp2_with (first | ((with_reducible refine gate_callee (f := 36) rfl ?_); refine goesL_ (some 15) rfl rfl Try.func36 (by kernel_rfl) rfl #[.int .i64 a0_1, .int .i64 1, .int .i64 1099511627776] rfl (by (try simp only [List.map_toArray, List.map_cons, List.map_nil]); first | done | rfl | (simp only [List.length_drop, List.length_take]; rfl)) ?_; (with_reducible refine (lookoutref16_within.calls a0_1 1 1099511627776 false _ A13.out).mono ?_); rintro e w' ⟨rfl, ⟨nd, rfl⟩⟩; refine ⟨_, rfl, ?_⟩))
          go_meet
          case rel => exact ⟨_, (true), (by first | rfl | (simp; done) | (simp [*]; done)), H', ⟨by first | omega | exact Nat.le_refl _⟩, ⟨by (with_reducible repeat (first | refine blk_drewN ?_ _ | refine blk_drew ?_ | refine blk_alloc ?_ _)); exact BK107.out⟩, ⟨by repeat (first | (with_reducible first | exact HB.out | apply below_alloc | apply pw_below_drewN | apply below_drew1 | refine below_set ?_ GE107.out) | exact HB.out)⟩⟩
      case rest =>
        clear HC10
        try clear c1
        try clear p2
        try clear c3
        try clear c4
        try clear c4b0
        try clear c4b1
        try clear c5
        try clear c5b0
        try clear c14
        try clear hcz12_0
        try clear hcz12_1
        try clear hcz12_10
        try clear hcz12_11
        try clear hcz12_12
        try clear hcz12_2
        try clear hcz12_3
        try clear hcz12_4
        try clear hcz12_5
        try clear hcz12_6
        try clear hcz12_7
        try clear hcz12_8
        try clear hcz12_9
        try clear hcz16_0
        try clear hcz16_1
        try clear hcz16_10
        try clear hcz16_11
        try clear hcz16_12
        try clear hcz16_2
        try clear hcz16_3
        try clear hcz16_4
        try clear hcz16_5
        try clear hcz16_6
        try clear hcz16_7
        try clear hcz16_8
        try clear hcz16_9
        try clear hcz17_0
        try clear hcz17_1
        try clear hcz17_10
        try clear hcz17_11
        try clear hcz17_12
        try clear hcz17_2
        try clear hcz17_3
        try clear hcz17_4
        try clear hcz17_5
        try clear hcz17_6
        try clear hcz17_7
        try clear hcz17_8
        try clear hcz17_9
        try clear hcz7_0
        try clear hcz7_1
        try clear hcz7_10
        try clear hcz7_11
        try clear hcz7_12
        try clear hcz7_2
        try clear hcz7_3
        try clear hcz7_4
        try clear hcz7_5
        try clear hcz7_6
        try clear hcz7_7
        try clear hcz7_8
        try clear hcz7_9
        try clear hcz9_0
        try clear hcz9_1
        try clear hcz9_10
        try clear hcz9_11
        try clear hcz9_12
        try clear hcz9_2
        try clear hcz9_3
        try clear hcz9_4
        try clear hcz9_5
        try clear hcz9_6
        try clear hcz9_7
        try clear hcz9_8
        try clear hcz9_9
        try clear hfz12_0
        try clear hfz12_1
        try clear hfz12_10
        try clear hfz12_11
        try clear hfz12_12
        try clear hfz12_2
        try clear hfz12_3
        try clear hfz12_4
        try clear hfz12_5
        try clear hfz12_6
        try clear hfz12_7
        try clear hfz12_8
        try clear hfz12_9
        try clear hfz16_0
        try clear hfz16_1
        try clear hfz16_10
        try clear hfz16_11
        try clear hfz16_12
        try clear hfz16_2
        try clear hfz16_3
        try clear hfz16_4
        try clear hfz16_5
        try clear hfz16_6
        try clear hfz16_7
        try clear hfz16_8
        try clear hfz16_9
        try clear hfz17_0
        try clear hfz17_1
        try clear hfz17_10
        try clear hfz17_11
        try clear hfz17_12
        try clear hfz17_2
        try clear hfz17_3
        try clear hfz17_4
        try clear hfz17_5
        try clear hfz17_6
        try clear hfz17_7
        try clear hfz17_8
        try clear hfz17_9
        try clear hfz7_0
        try clear hfz7_1
        try clear hfz7_10
        try clear hfz7_11
        try clear hfz7_12
        try clear hfz7_2
        try clear hfz7_3
        try clear hfz7_4
        try clear hfz7_5
        try clear hfz7_6
        try clear hfz7_7
        try clear hfz7_8
        try clear hfz7_9
        try clear hfz9_0
        try clear hfz9_1
        try clear hfz9_10
        try clear hfz9_11
        try clear hfz9_12
        try clear hfz9_2
        try clear hfz9_3
        try clear hfz9_4
        try clear hfz9_5
        try clear hfz9_6
        try clear hfz9_7
        try clear hfz9_8
        try clear hfz9_9
        obtain ⟨kq, x22_9, rfl, HA, HJ9, BK107, HB⟩ := hcut
        cases kq with
        | zero => exact absurd HA.out (by simp [lookoutref16_Check.j0])
        | succ kj9 =>
          have H := HA.out
          clear HA
          simp only [lookoutref16_Check.j0] at H
          by_cases c18 : x22_9 = true
          · subst c18
            have H1 : (some 2) = some r := by rw [if_pos rfl] at H; exact H
            clear H
            have H := H1
            clear H1
            obtain rfl := Option.some.inj H
            go_wp2
            go_ret
            exact ⟨by first | rfl | (simp [errW_none, errW_some] <;> rfl) | (simp [*, errW_none, errW_some] <;> rfl), by repeat (first | (with_reducible first | exact HB.out | apply below_alloc | apply pw_below_drewN | apply below_drew1 | refine below_set ?_ GE107.out) | exact HB.out)⟩
          · replace c18 := Bool.eq_false_iff.mpr c18
            subst c18
            have H1 : (if a0_1 > a0_2 then (some 9) else ((lookoutref16_within.f a0_3 (-1099511627776) 1099511627776).bind fun t111 => (if t111 = true then ((lookoutref16_within.f a0_4 (-1099511627776) 1099511627776).bind fun t112 => (lookoutref16_Check.j1 kj9 (!t112) a0_0 a0_1 a0_2 a0_3 a0_4 a0_5 a0_6 a0_7 a0_8 a0_9 a0_10 a0_11 a0_12)) else (lookoutref16_Check.j1 kj9 true a0_0 a0_1 a0_2 a0_3 a0_4 a0_5 a0_6 a0_7 a0_8 a0_9 a0_10 a0_11 a0_12)))) = some r := by rw [if_neg (show ¬ (false = true) by decide)] at H; exact H
            clear H
            have H := H1
            clear H1
            by_cases c19 : a0_1 > a0_2
            · rw [if_pos c19] at H
              have c19b0 : decide (a0_2 < a0_1) = true := decide_eq_true c19
              clear c19
              obtain rfl := Option.some.inj H
              have hcz20_0 : wc.cell? ⟨gb107, 0, none⟩ = some (.int .i64 a0_0) := (blk_cell BK107.out 0).trans rfl
              have hcz20_1 : wc.cell? ⟨gb107, 1, none⟩ = some (.int .i64 a0_1) := (blk_cell BK107.out 1).trans rfl
              have hcz20_2 : wc.cell? ⟨gb107, 2, none⟩ = some (.int .i64 a0_2) := (blk_cell BK107.out 2).trans rfl
              have hcz20_3 : wc.cell? ⟨gb107, 3, none⟩ = some (.int .i64 a0_3) := (blk_cell BK107.out 3).trans rfl
              have hcz20_4 : wc.cell? ⟨gb107, 4, none⟩ = some (.int .i64 a0_4) := (blk_cell BK107.out 4).trans rfl
              have hcz20_5 : wc.cell? ⟨gb107, 5, none⟩ = some (.int .u32 a0_5) := (blk_cell BK107.out 5).trans rfl
              have hcz20_6 : wc.cell? ⟨gb107, 6, none⟩ = some (.int .u32 a0_6) := (blk_cell BK107.out 6).trans rfl
              have hcz20_7 : wc.cell? ⟨gb107, 7, none⟩ = some (.int .u32 a0_7) := (blk_cell BK107.out 7).trans rfl
              have hcz20_8 : wc.cell? ⟨gb107, 8, none⟩ = some (.int .u32 a0_8) := (blk_cell BK107.out 8).trans rfl
              have hcz20_9 : wc.cell? ⟨gb107, 9, none⟩ = some (.int .u32 a0_9) := (blk_cell BK107.out 9).trans rfl
              have hcz20_10 : wc.cell? ⟨gb107, 10, none⟩ = some (.int .u32 a0_10) := (blk_cell BK107.out 10).trans rfl
              have hcz20_11 : wc.cell? ⟨gb107, 11, none⟩ = some (.int .u32 a0_11) := (blk_cell BK107.out 11).trans rfl
              have hcz20_12 : wc.cell? ⟨gb107, 12, none⟩ = some (.int .u32 a0_12) := (blk_cell BK107.out 12).trans rfl
              have hfz20_0 := blk_frozen BK107.out 0
              have hfz20_1 := blk_frozen BK107.out 1
              have hfz20_2 := blk_frozen BK107.out 2
              have hfz20_3 := blk_frozen BK107.out 3
              have hfz20_4 := blk_frozen BK107.out 4
              have hfz20_5 := blk_frozen BK107.out 5
              have hfz20_6 := blk_frozen BK107.out 6
              have hfz20_7 := blk_frozen BK107.out 7
              have hfz20_8 := blk_frozen BK107.out 8
              have hfz20_9 := blk_frozen BK107.out 9
              have hfz20_10 := blk_frozen BK107.out 10
              have hfz20_11 := blk_frozen BK107.out 11
              have hfz20_12 := blk_frozen BK107.out 12
              go_wp2
              go_ret
              exact ⟨by first | rfl | (simp [errW_none, errW_some] <;> rfl) | (simp [*, errW_none, errW_some] <;> rfl), by repeat (first | (with_reducible first | exact HB.out | apply below_alloc | apply pw_below_drewN | apply below_drew1 | refine below_set ?_ GE107.out) | exact HB.out)⟩
            · rw [if_neg c19] at H
              have c19b0 : decide (a0_2 < a0_1) = false := decide_eq_false c19
              clear c19
              have HC21 := Aside0.mk H
              clear H
              have hcz22_0 : wc.cell? ⟨gb107, 0, none⟩ = some (.int .i64 a0_0) := (blk_cell BK107.out 0).trans rfl
              have hcz22_1 : wc.cell? ⟨gb107, 1, none⟩ = some (.int .i64 a0_1) := (blk_cell BK107.out 1).trans rfl
              have hcz22_2 : wc.cell? ⟨gb107, 2, none⟩ = some (.int .i64 a0_2) := (blk_cell BK107.out 2).trans rfl
              have hcz22_3 : wc.cell? ⟨gb107, 3, none⟩ = some (.int .i64 a0_3) := (blk_cell BK107.out 3).trans rfl
              have hcz22_4 : wc.cell? ⟨gb107, 4, none⟩ = some (.int .i64 a0_4) := (blk_cell BK107.out 4).trans rfl
              have hcz22_5 : wc.cell? ⟨gb107, 5, none⟩ = some (.int .u32 a0_5) := (blk_cell BK107.out 5).trans rfl
              have hcz22_6 : wc.cell? ⟨gb107, 6, none⟩ = some (.int .u32 a0_6) := (blk_cell BK107.out 6).trans rfl
              have hcz22_7 : wc.cell? ⟨gb107, 7, none⟩ = some (.int .u32 a0_7) := (blk_cell BK107.out 7).trans rfl
              have hcz22_8 : wc.cell? ⟨gb107, 8, none⟩ = some (.int .u32 a0_8) := (blk_cell BK107.out 8).trans rfl
              have hcz22_9 : wc.cell? ⟨gb107, 9, none⟩ = some (.int .u32 a0_9) := (blk_cell BK107.out 9).trans rfl
              have hcz22_10 : wc.cell? ⟨gb107, 10, none⟩ = some (.int .u32 a0_10) := (blk_cell BK107.out 10).trans rfl
              have hcz22_11 : wc.cell? ⟨gb107, 11, none⟩ = some (.int .u32 a0_11) := (blk_cell BK107.out 11).trans rfl
              have hcz22_12 : wc.cell? ⟨gb107, 12, none⟩ = some (.int .u32 a0_12) := (blk_cell BK107.out 12).trans rfl
              have hfz22_0 := blk_frozen BK107.out 0
              have hfz22_1 := blk_frozen BK107.out 1
              have hfz22_2 := blk_frozen BK107.out 2
              have hfz22_3 := blk_frozen BK107.out 3
              have hfz22_4 := blk_frozen BK107.out 4
              have hfz22_5 := blk_frozen BK107.out 5
              have hfz22_6 := blk_frozen BK107.out 6
              have hfz22_7 := blk_frozen BK107.out 7
              have hfz22_8 := blk_frozen BK107.out 8
              have hfz22_9 := blk_frozen BK107.out 9
              have hfz22_10 := blk_frozen BK107.out 10
              have hfz22_11 := blk_frozen BK107.out 11
              have hfz22_12 := blk_frozen BK107.out 12
              go_upto_region 11 with (fail)
              go_cut [37] (fun v37 wc => ∃ (kq : Nat) (x37_20 : Bool), v37 = .bool x37_20 ∧ Aside0 (lookoutref16_Check.j1 kq x37_20 a0_0 a0_1 a0_2 a0_3 a0_4 a0_5 a0_6 a0_7 a0_8 a0_9 a0_10 a0_11 a0_12 = some r) ∧ Aside0 (kq ≤ kj9) ∧ Aside0 (wc.heap[gb107]? = some (.cells #[.int .i64 a0_0, .int .i64 a0_1, .int .i64 a0_2, .int .i64 a0_3, .int .i64 a0_4, .int .u32 a0_5, .int .u32 a0_6, .int .u32 a0_7, .int .u32 a0_8, .int .u32 a0_9, .int .u32 a0_10, .int .u32 a0_11, .int .u32 a0_12] 25 (0, 0))) ∧ Aside0 (Below w.heap.size w wc))
              case first =>
                have H := HC21.out
                clear HC21
                replace H := Option.bind_eq_some_iff.mp H
                obtain ⟨t111, A230, H⟩ := H
                replace H : (if t111 = true then ((lookoutref16_within.f a0_4 (-1099511627776) 1099511627776).bind fun t112 => (lookoutref16_Check.j1 kj9 (!t112) a0_0 a0_1 a0_2 a0_3 a0_4 a0_5 a0_6 a0_7 a0_8 a0_9 a0_10 a0_11 a0_12)) else (lookoutref16_Check.j1 kj9 true a0_0 a0_1 a0_2 a0_3 a0_4 a0_5 a0_6 a0_7 a0_8 a0_9 a0_10 a0_11 a0_12)) = some r := H
                have A23 := Aside0.mk A230
                clear A230
                by_cases c24 : t111 = true
                · subst c24
                  have H1 : ((lookoutref16_within.f a0_4 (-1099511627776) 1099511627776).bind fun t112 => (lookoutref16_Check.j1 kj9 (!t112) a0_0 a0_1 a0_2 a0_3 a0_4 a0_5 a0_6 a0_7 a0_8 a0_9 a0_10 a0_11 a0_12)) = some r := by rw [if_pos rfl] at H; exact H
                  clear H
                  have H := H1
                  clear H1
                  replace H := Option.bind_eq_some_iff.mp H
                  obtain ⟨t112, A250, H⟩ := H
                  replace H : (lookoutref16_Check.j1 kj9 (!t112) a0_0 a0_1 a0_2 a0_3 a0_4 a0_5 a0_6 a0_7 a0_8 a0_9 a0_10 a0_11 a0_12) = some r := H
                  have A25 := Aside0.mk A250
                  clear A250
                  have H' := Aside0.mk H
                  clear H
                  have hcz26_0 : wc.cell? ⟨gb107, 0, none⟩ = some (.int .i64 a0_0) := (blk_cell BK107.out 0).trans rfl
                  have hcz26_1 : wc.cell? ⟨gb107, 1, none⟩ = some (.int .i64 a0_1) := (blk_cell BK107.out 1).trans rfl
                  have hcz26_2 : wc.cell? ⟨gb107, 2, none⟩ = some (.int .i64 a0_2) := (blk_cell BK107.out 2).trans rfl
                  have hcz26_3 : wc.cell? ⟨gb107, 3, none⟩ = some (.int .i64 a0_3) := (blk_cell BK107.out 3).trans rfl
                  have hcz26_4 : wc.cell? ⟨gb107, 4, none⟩ = some (.int .i64 a0_4) := (blk_cell BK107.out 4).trans rfl
                  have hcz26_5 : wc.cell? ⟨gb107, 5, none⟩ = some (.int .u32 a0_5) := (blk_cell BK107.out 5).trans rfl
                  have hcz26_6 : wc.cell? ⟨gb107, 6, none⟩ = some (.int .u32 a0_6) := (blk_cell BK107.out 6).trans rfl
                  have hcz26_7 : wc.cell? ⟨gb107, 7, none⟩ = some (.int .u32 a0_7) := (blk_cell BK107.out 7).trans rfl
                  have hcz26_8 : wc.cell? ⟨gb107, 8, none⟩ = some (.int .u32 a0_8) := (blk_cell BK107.out 8).trans rfl
                  have hcz26_9 : wc.cell? ⟨gb107, 9, none⟩ = some (.int .u32 a0_9) := (blk_cell BK107.out 9).trans rfl
                  have hcz26_10 : wc.cell? ⟨gb107, 10, none⟩ = some (.int .u32 a0_10) := (blk_cell BK107.out 10).trans rfl
                  have hcz26_11 : wc.cell? ⟨gb107, 11, none⟩ = some (.int .u32 a0_11) := (blk_cell BK107.out 11).trans rfl
                  have hcz26_12 : wc.cell? ⟨gb107, 12, none⟩ = some (.int .u32 a0_12) := (blk_cell BK107.out 12).trans rfl
                  have hfz26_0 := blk_frozen BK107.out 0
                  have hfz26_1 := blk_frozen BK107.out 1
                  have hfz26_2 := blk_frozen BK107.out 2
                  have hfz26_3 := blk_frozen BK107.out 3
                  have hfz26_4 := blk_frozen BK107.out 4
                  have hfz26_5 := blk_frozen BK107.out 5
                  have hfz26_6 := blk_frozen BK107.out 6
                  have hfz26_7 := blk_frozen BK107.out 7
                  have hfz26_8 := blk_frozen BK107.out 8
                  have hfz26_9 := blk_frozen BK107.out 9
                  have hfz26_10 := blk_frozen BK107.out 10
                  have hfz26_11 := blk_frozen BK107.out 11
                  have hfz26_12 := blk_frozen BK107.out 12
                  go_wp2_with (first | ((with_reducible refine gate_callee (f := 36) rfl ?_); refine goesL_ (some 30) rfl rfl Try.func36 (by kernel_rfl) rfl #[.int .i64 a0_3, .int .i64 (-1099511627776), .int .i64 1099511627776] rfl (by (try simp only [List.map_toArray, List.map_cons, List.map_nil]); first | done | rfl | (simp only [List.length_drop, List.length_take]; rfl)) ?_; (with_reducible refine (lookoutref16_within.calls a0_3 (-1099511627776) 1099511627776 true _ A23.out).mono ?_); rintro e w' ⟨rfl, ⟨nd, rfl⟩⟩; refine ⟨_, rfl, ?_⟩) | (go_at_call 36; (with_reducible refine (lookoutref16_within.calls a0_4 (-1099511627776) 1099511627776 t112 _ A25.out).mono ?_); rintro e w' ⟨rfl, ⟨nd, rfl⟩⟩))
                  go_meet
                  case rel => exact ⟨_, (!t112), (by first | rfl | (simp; done) | (simp [*]; done)), H', ⟨by have := HJ9.out; first | omega | exact Nat.le_refl _⟩, ⟨by (with_reducible repeat (first | refine blk_drewN ?_ _ | refine blk_drew ?_ | refine blk_alloc ?_ _)); exact BK107.out⟩, ⟨by repeat (first | (with_reducible first | exact HB.out | apply below_alloc | apply pw_below_drewN | apply below_drew1 | refine below_set ?_ GE107.out) | exact HB.out)⟩⟩
                · replace c24 := Bool.eq_false_iff.mpr c24
                  subst c24
                  have H1 : (lookoutref16_Check.j1 kj9 true a0_0 a0_1 a0_2 a0_3 a0_4 a0_5 a0_6 a0_7 a0_8 a0_9 a0_10 a0_11 a0_12) = some r := by rw [if_neg (show ¬ (false = true) by decide)] at H; exact H
                  clear H
                  have H := H1
                  clear H1
                  have H' := Aside0.mk H
                  clear H
                  have hcz27_0 : wc.cell? ⟨gb107, 0, none⟩ = some (.int .i64 a0_0) := (blk_cell BK107.out 0).trans rfl
                  have hcz27_1 : wc.cell? ⟨gb107, 1, none⟩ = some (.int .i64 a0_1) := (blk_cell BK107.out 1).trans rfl
                  have hcz27_2 : wc.cell? ⟨gb107, 2, none⟩ = some (.int .i64 a0_2) := (blk_cell BK107.out 2).trans rfl
                  have hcz27_3 : wc.cell? ⟨gb107, 3, none⟩ = some (.int .i64 a0_3) := (blk_cell BK107.out 3).trans rfl
                  have hcz27_4 : wc.cell? ⟨gb107, 4, none⟩ = some (.int .i64 a0_4) := (blk_cell BK107.out 4).trans rfl
                  have hcz27_5 : wc.cell? ⟨gb107, 5, none⟩ = some (.int .u32 a0_5) := (blk_cell BK107.out 5).trans rfl
                  have hcz27_6 : wc.cell? ⟨gb107, 6, none⟩ = some (.int .u32 a0_6) := (blk_cell BK107.out 6).trans rfl
                  have hcz27_7 : wc.cell? ⟨gb107, 7, none⟩ = some (.int .u32 a0_7) := (blk_cell BK107.out 7).trans rfl
                  have hcz27_8 : wc.cell? ⟨gb107, 8, none⟩ = some (.int .u32 a0_8) := (blk_cell BK107.out 8).trans rfl
                  have hcz27_9 : wc.cell? ⟨gb107, 9, none⟩ = some (.int .u32 a0_9) := (blk_cell BK107.out 9).trans rfl
                  have hcz27_10 : wc.cell? ⟨gb107, 10, none⟩ = some (.int .u32 a0_10) := (blk_cell BK107.out 10).trans rfl
                  have hcz27_11 : wc.cell? ⟨gb107, 11, none⟩ = some (.int .u32 a0_11) := (blk_cell BK107.out 11).trans rfl
                  have hcz27_12 : wc.cell? ⟨gb107, 12, none⟩ = some (.int .u32 a0_12) := (blk_cell BK107.out 12).trans rfl
                  have hfz27_0 := blk_frozen BK107.out 0
                  have hfz27_1 := blk_frozen BK107.out 1
                  have hfz27_2 := blk_frozen BK107.out 2
                  have hfz27_3 := blk_frozen BK107.out 3
                  have hfz27_4 := blk_frozen BK107.out 4
                  have hfz27_5 := blk_frozen BK107.out 5
                  have hfz27_6 := blk_frozen BK107.out 6
                  have hfz27_7 := blk_frozen BK107.out 7
                  have hfz27_8 := blk_frozen BK107.out 8
                  have hfz27_9 := blk_frozen BK107.out 9
                  have hfz27_10 := blk_frozen BK107.out 10
                  have hfz27_11 := blk_frozen BK107.out 11
                  have hfz27_12 := blk_frozen BK107.out 12
                  go_wp2_with (first | ((with_reducible refine gate_callee (f := 36) rfl ?_); refine goesL_ (some 30) rfl rfl Try.func36 (by kernel_rfl) rfl #[.int .i64 a0_3, .int .i64 (-1099511627776), .int .i64 1099511627776] rfl (by (try simp only [List.map_toArray, List.map_cons, List.map_nil]); first | done | rfl | (simp only [List.length_drop, List.length_take]; rfl)) ?_; (with_reducible refine (lookoutref16_within.calls a0_3 (-1099511627776) 1099511627776 false _ A23.out).mono ?_); rintro e w' ⟨rfl, ⟨nd, rfl⟩⟩; refine ⟨_, rfl, ?_⟩))
                  go_meet
                  case rel => exact ⟨_, (true), (by first | rfl | (simp; done) | (simp [*]; done)), H', ⟨by have := HJ9.out; first | omega | exact Nat.le_refl _⟩, ⟨by (with_reducible repeat (first | refine blk_drewN ?_ _ | refine blk_drew ?_ | refine blk_alloc ?_ _)); exact BK107.out⟩, ⟨by repeat (first | (with_reducible first | exact HB.out | apply below_alloc | apply pw_below_drewN | apply below_drew1 | refine below_set ?_ GE107.out) | exact HB.out)⟩⟩
              case rest =>
                clear HC21
                try clear c1
                try clear c2
                try clear p2
                try clear c3
                try clear c4
                try clear c4b0
                try clear c4b1
                try clear c5
                try clear c5b0
                try clear c14
                try clear c18
                try clear c19
                try clear c19b0
                try clear c24
                try clear hcz12_0
                try clear hcz12_1
                try clear hcz12_10
                try clear hcz12_11
                try clear hcz12_12
                try clear hcz12_2
                try clear hcz12_3
                try clear hcz12_4
                try clear hcz12_5
                try clear hcz12_6
                try clear hcz12_7
                try clear hcz12_8
                try clear hcz12_9
                try clear hcz16_0
                try clear hcz16_1
                try clear hcz16_10
                try clear hcz16_11
                try clear hcz16_12
                try clear hcz16_2
                try clear hcz16_3
                try clear hcz16_4
                try clear hcz16_5
                try clear hcz16_6
                try clear hcz16_7
                try clear hcz16_8
                try clear hcz16_9
                try clear hcz17_0
                try clear hcz17_1
                try clear hcz17_10
                try clear hcz17_11
                try clear hcz17_12
                try clear hcz17_2
                try clear hcz17_3
                try clear hcz17_4
                try clear hcz17_5
                try clear hcz17_6
                try clear hcz17_7
                try clear hcz17_8
                try clear hcz17_9
                try clear hcz20_0
                try clear hcz20_1
                try clear hcz20_10
                try clear hcz20_11
                try clear hcz20_12
                try clear hcz20_2
                try clear hcz20_3
                try clear hcz20_4
                try clear hcz20_5
                try clear hcz20_6
                try clear hcz20_7
                try clear hcz20_8
                try clear hcz20_9
                try clear hcz22_0
                try clear hcz22_1
                try clear hcz22_10
                try clear hcz22_11
                try clear hcz22_12
                try clear hcz22_2
                try clear hcz22_3
                try clear hcz22_4
                try clear hcz22_5
                try clear hcz22_6
                try clear hcz22_7
                try clear hcz22_8
                try clear hcz22_9
                try clear hcz26_0
                try clear hcz26_1
                try clear hcz26_10
                try clear hcz26_11
                try clear hcz26_12
                try clear hcz26_2
                try clear hcz26_3
                try clear hcz26_4
                try clear hcz26_5
                try clear hcz26_6
                try clear hcz26_7
                try clear hcz26_8
                try clear hcz26_9
                try clear hcz27_0
                try clear hcz27_1
                try clear hcz27_10
                try clear hcz27_11
                try clear hcz27_12
                try clear hcz27_2
                try clear hcz27_3
                try clear hcz27_4
                try clear hcz27_5
                try clear hcz27_6
                try clear hcz27_7
                try clear hcz27_8
                try clear hcz27_9
                try clear hcz7_0
                try clear hcz7_1
                try clear hcz7_10
                try clear hcz7_11
                try clear hcz7_12
                try clear hcz7_2
                try clear hcz7_3
                try clear hcz7_4
                try clear hcz7_5
                try clear hcz7_6
                try clear hcz7_7
                try clear hcz7_8
                try clear hcz7_9
                try clear hcz9_0
                try clear hcz9_1
                try clear hcz9_10
                try clear hcz9_11
                try clear hcz9_12
                try clear hcz9_2
                try clear hcz9_3
                try clear hcz9_4
                try clear hcz9_5
                try clear hcz9_6
                try clear hcz9_7
                try clear hcz9_8
                try clear hcz9_9
                try clear hfz12_0
                try clear hfz12_1
                try clear hfz12_10
                try clear hfz12_11
                try clear hfz12_12
                try clear hfz12_2
                try clear hfz12_3
                try clear hfz12_4
                try clear hfz12_5
                try clear hfz12_6
                try clear hfz12_7
                try clear hfz12_8
                try clear hfz12_9
                try clear hfz16_0
                try clear hfz16_1
                try clear hfz16_10
                try clear hfz16_11
                try clear hfz16_12
                try clear hfz16_2
                try clear hfz16_3
                try clear hfz16_4
                try clear hfz16_5
                try clear hfz16_6
                try clear hfz16_7
                try clear hfz16_8
                try clear hfz16_9
                try clear hfz17_0
                try clear hfz17_1
                try clear hfz17_10
                try clear hfz17_11
                try clear hfz17_12
                try clear hfz17_2
                try clear hfz17_3
                try clear hfz17_4
                try clear hfz17_5
                try clear hfz17_6
                try clear hfz17_7
                try clear hfz17_8
                try clear hfz17_9
                try clear hfz20_0
                try clear hfz20_1
                try clear hfz20_10
                try clear hfz20_11
                try clear hfz20_12
                try clear hfz20_2
                try clear hfz20_3
                try clear hfz20_4
                try clear hfz20_5
                try clear hfz20_6
                try clear hfz20_7
                try clear hfz20_8
                try clear hfz20_9
                try clear hfz22_0
                try clear hfz22_1
                try clear hfz22_10
                try clear hfz22_11
                try clear hfz22_12
                try clear hfz22_2
                try clear hfz22_3
                try clear hfz22_4
                try clear hfz22_5
                try clear hfz22_6
                try clear hfz22_7
                try clear hfz22_8
                try clear hfz22_9
                try clear hfz26_0
                try clear hfz26_1
                try clear hfz26_10
                try clear hfz26_11
                try clear hfz26_12
                try clear hfz26_2
                try clear hfz26_3
                try clear hfz26_4
                try clear hfz26_5
                try clear hfz26_6
                try clear hfz26_7
                try clear hfz26_8
                try clear hfz26_9
                try clear hfz27_0
                try clear hfz27_1
                try clear hfz27_10
                try clear hfz27_11
                try clear hfz27_12
                try clear hfz27_2
                try clear hfz27_3
                try clear hfz27_4
                try clear hfz27_5
                try clear hfz27_6
                try clear hfz27_7
                try clear hfz27_8
                try clear hfz27_9
                try clear hfz7_0
                try clear hfz7_1
                try clear hfz7_10
                try clear hfz7_11
                try clear hfz7_12
                try clear hfz7_2
                try clear hfz7_3
                try clear hfz7_4
                try clear hfz7_5
                try clear hfz7_6
                try clear hfz7_7
                try clear hfz7_8
                try clear hfz7_9
                try clear hfz9_0
                try clear hfz9_1
                try clear hfz9_10
                try clear hfz9_11
                try clear hfz9_12
                try clear hfz9_2
                try clear hfz9_3
                try clear hfz9_4
                try clear hfz9_5
                try clear hfz9_6
                try clear hfz9_7
                try clear hfz9_8
                try clear hfz9_9
                try clear p2
                obtain ⟨kq, x37_20, rfl, HA, HJ20, BK107, HB⟩ := hcut
                cases kq with
                | zero => exact absurd HA.out (by simp [lookoutref16_Check.j1])
                | succ kj20 =>
                  have H := HA.out
                  clear HA
                  simp only [lookoutref16_Check.j1] at H
                  by_cases c28 : x37_20 = true
                  · subst c28
                    have H1 : (some 2) = some r := by rw [if_pos rfl] at H; exact H
                    clear H
                    have H := H1
                    clear H1
                    obtain rfl := Option.some.inj H
                    go_wp2
                    go_ret
                    exact ⟨by first | rfl | (simp [errW_none, errW_some] <;> rfl) | (simp [*, errW_none, errW_some] <;> rfl), by repeat (first | (with_reducible first | exact HB.out | apply below_alloc | apply pw_below_drewN | apply below_drew1 | refine below_set ?_ GE107.out) | exact HB.out)⟩
                  · replace c28 := Bool.eq_false_iff.mpr c28
                    subst c28
                    have H1 : (if a0_3 > a0_4 then (some 9) else (some 0)) = some r := by rw [if_neg (show ¬ (false = true) by decide)] at H; exact H
                    clear H
                    have H := H1
                    clear H1
                    by_cases c29 : a0_3 > a0_4
                    · rw [if_pos c29] at H
                      have c29b0 : decide (a0_4 < a0_3) = true := decide_eq_true c29
                      clear c29
                      obtain rfl := Option.some.inj H
                      have hcz30_0 : wc.cell? ⟨gb107, 0, none⟩ = some (.int .i64 a0_0) := (blk_cell BK107.out 0).trans rfl
                      have hcz30_1 : wc.cell? ⟨gb107, 1, none⟩ = some (.int .i64 a0_1) := (blk_cell BK107.out 1).trans rfl
                      have hcz30_2 : wc.cell? ⟨gb107, 2, none⟩ = some (.int .i64 a0_2) := (blk_cell BK107.out 2).trans rfl
                      have hcz30_3 : wc.cell? ⟨gb107, 3, none⟩ = some (.int .i64 a0_3) := (blk_cell BK107.out 3).trans rfl
                      have hcz30_4 : wc.cell? ⟨gb107, 4, none⟩ = some (.int .i64 a0_4) := (blk_cell BK107.out 4).trans rfl
                      have hcz30_5 : wc.cell? ⟨gb107, 5, none⟩ = some (.int .u32 a0_5) := (blk_cell BK107.out 5).trans rfl
                      have hcz30_6 : wc.cell? ⟨gb107, 6, none⟩ = some (.int .u32 a0_6) := (blk_cell BK107.out 6).trans rfl
                      have hcz30_7 : wc.cell? ⟨gb107, 7, none⟩ = some (.int .u32 a0_7) := (blk_cell BK107.out 7).trans rfl
                      have hcz30_8 : wc.cell? ⟨gb107, 8, none⟩ = some (.int .u32 a0_8) := (blk_cell BK107.out 8).trans rfl
                      have hcz30_9 : wc.cell? ⟨gb107, 9, none⟩ = some (.int .u32 a0_9) := (blk_cell BK107.out 9).trans rfl
                      have hcz30_10 : wc.cell? ⟨gb107, 10, none⟩ = some (.int .u32 a0_10) := (blk_cell BK107.out 10).trans rfl
                      have hcz30_11 : wc.cell? ⟨gb107, 11, none⟩ = some (.int .u32 a0_11) := (blk_cell BK107.out 11).trans rfl
                      have hcz30_12 : wc.cell? ⟨gb107, 12, none⟩ = some (.int .u32 a0_12) := (blk_cell BK107.out 12).trans rfl
                      have hfz30_0 := blk_frozen BK107.out 0
                      have hfz30_1 := blk_frozen BK107.out 1
                      have hfz30_2 := blk_frozen BK107.out 2
                      have hfz30_3 := blk_frozen BK107.out 3
                      have hfz30_4 := blk_frozen BK107.out 4
                      have hfz30_5 := blk_frozen BK107.out 5
                      have hfz30_6 := blk_frozen BK107.out 6
                      have hfz30_7 := blk_frozen BK107.out 7
                      have hfz30_8 := blk_frozen BK107.out 8
                      have hfz30_9 := blk_frozen BK107.out 9
                      have hfz30_10 := blk_frozen BK107.out 10
                      have hfz30_11 := blk_frozen BK107.out 11
                      have hfz30_12 := blk_frozen BK107.out 12
                      go_wp2
                      go_ret
                      exact ⟨by first | rfl | (simp [errW_none, errW_some] <;> rfl) | (simp [*, errW_none, errW_some] <;> rfl), by repeat (first | (with_reducible first | exact HB.out | apply below_alloc | apply pw_below_drewN | apply below_drew1 | refine below_set ?_ GE107.out) | exact HB.out)⟩
                    · rw [if_neg c29] at H
                      have c29b0 : decide (a0_4 < a0_3) = false := decide_eq_false c29
                      clear c29
                      obtain rfl := Option.some.inj H
                      have hcz31_0 : wc.cell? ⟨gb107, 0, none⟩ = some (.int .i64 a0_0) := (blk_cell BK107.out 0).trans rfl
                      have hcz31_1 : wc.cell? ⟨gb107, 1, none⟩ = some (.int .i64 a0_1) := (blk_cell BK107.out 1).trans rfl
                      have hcz31_2 : wc.cell? ⟨gb107, 2, none⟩ = some (.int .i64 a0_2) := (blk_cell BK107.out 2).trans rfl
                      have hcz31_3 : wc.cell? ⟨gb107, 3, none⟩ = some (.int .i64 a0_3) := (blk_cell BK107.out 3).trans rfl
                      have hcz31_4 : wc.cell? ⟨gb107, 4, none⟩ = some (.int .i64 a0_4) := (blk_cell BK107.out 4).trans rfl
                      have hcz31_5 : wc.cell? ⟨gb107, 5, none⟩ = some (.int .u32 a0_5) := (blk_cell BK107.out 5).trans rfl
                      have hcz31_6 : wc.cell? ⟨gb107, 6, none⟩ = some (.int .u32 a0_6) := (blk_cell BK107.out 6).trans rfl
                      have hcz31_7 : wc.cell? ⟨gb107, 7, none⟩ = some (.int .u32 a0_7) := (blk_cell BK107.out 7).trans rfl
                      have hcz31_8 : wc.cell? ⟨gb107, 8, none⟩ = some (.int .u32 a0_8) := (blk_cell BK107.out 8).trans rfl
                      have hcz31_9 : wc.cell? ⟨gb107, 9, none⟩ = some (.int .u32 a0_9) := (blk_cell BK107.out 9).trans rfl
                      have hcz31_10 : wc.cell? ⟨gb107, 10, none⟩ = some (.int .u32 a0_10) := (blk_cell BK107.out 10).trans rfl
                      have hcz31_11 : wc.cell? ⟨gb107, 11, none⟩ = some (.int .u32 a0_11) := (blk_cell BK107.out 11).trans rfl
                      have hcz31_12 : wc.cell? ⟨gb107, 12, none⟩ = some (.int .u32 a0_12) := (blk_cell BK107.out 12).trans rfl
                      have hfz31_0 := blk_frozen BK107.out 0
                      have hfz31_1 := blk_frozen BK107.out 1
                      have hfz31_2 := blk_frozen BK107.out 2
                      have hfz31_3 := blk_frozen BK107.out 3
                      have hfz31_4 := blk_frozen BK107.out 4
                      have hfz31_5 := blk_frozen BK107.out 5
                      have hfz31_6 := blk_frozen BK107.out 6
                      have hfz31_7 := blk_frozen BK107.out 7
                      have hfz31_8 := blk_frozen BK107.out 8
                      have hfz31_9 := blk_frozen BK107.out 9
                      have hfz31_10 := blk_frozen BK107.out 10
                      have hfz31_11 := blk_frozen BK107.out 11
                      have hfz31_12 := blk_frozen BK107.out 12
                      go_wp2
                      go_ret
                      exact ⟨by first | rfl | (simp [errW_none, errW_some] <;> rfl) | (simp [*, errW_none, errW_some] <;> rfl), by repeat (first | (with_reducible first | exact HB.out | apply below_alloc | apply pw_below_drewN | apply below_drew1 | refine below_set ?_ GE107.out) | exact HB.out)⟩
  · replace c3 := Bool.eq_false_iff.mpr c3
    subst c3
    have H1 : (some 2) = some r := by rw [if_neg (show ¬ (false = true) by decide)] at H; exact H
    clear H
    have H := H1
    clear H1
    obtain rfl := Option.some.inj H
    go_enter Try.func14, Try.ntmps14
    go_wp2_with (first | ((with_reducible refine gate_dst (N := 1) rfl ?_); refine box_event ?hg (N := 1) ?hd (cs := #[.int .i64 a0_0, .int .i64 a0_1, .int .i64 a0_2, .int .i64 a0_3, .int .i64 a0_4, .int .u32 a0_5, .int .u32 a0_6, .int .u32 a0_7, .int .u32 a0_8, .int .u32 a0_9, .int .u32 a0_10, .int .u32 a0_11, .int .u32 a0_12]) (t := 25) ?hr ?_; (case hd => rfl); (case hg => rfl); (case hr => first | (go_simp; done) | (go_simp; rfl)); intro gb107 hg w32 hbox hb; have n0_ := Aside0.mk (below_step (by repeat (first | (with_reducible first | exact HB.out | apply below_alloc | apply pw_below_drewN | apply below_drew1) | exact HB.out)) hb); have n1_ := Aside0.mk (hbox); have n2_ := Aside0.mk ((by rw [hg]; exact (below_size (by repeat (first | (with_reducible first | exact HB.out | apply below_alloc | apply pw_below_drewN | apply below_drew1) | exact HB.out))) : w.heap.size ≤ gb107)); have n3_ := Aside0.mk ((by rw [hg]; exact (below_size (by repeat (first | (with_reducible first | exact HB.out | apply below_alloc | apply pw_below_drewN | apply below_drew1) | exact HB.out))) : w.heap.size ≤ gb107)); clear HB; have HB := n0_; have BK107 := n1_; have GW107 := n2_; have GE107 := n3_; clear n0_ n1_ n2_ n3_; clear hb hbox hg; have hcz33_0 : w32.cell? ⟨gb107, 0, none⟩ = some (.int .i64 a0_0) := (blk_cell BK107.out 0).trans rfl; have hcz33_1 : w32.cell? ⟨gb107, 1, none⟩ = some (.int .i64 a0_1) := (blk_cell BK107.out 1).trans rfl; have hcz33_2 : w32.cell? ⟨gb107, 2, none⟩ = some (.int .i64 a0_2) := (blk_cell BK107.out 2).trans rfl; have hcz33_3 : w32.cell? ⟨gb107, 3, none⟩ = some (.int .i64 a0_3) := (blk_cell BK107.out 3).trans rfl; have hcz33_4 : w32.cell? ⟨gb107, 4, none⟩ = some (.int .i64 a0_4) := (blk_cell BK107.out 4).trans rfl; have hcz33_5 : w32.cell? ⟨gb107, 5, none⟩ = some (.int .u32 a0_5) := (blk_cell BK107.out 5).trans rfl; have hcz33_6 : w32.cell? ⟨gb107, 6, none⟩ = some (.int .u32 a0_6) := (blk_cell BK107.out 6).trans rfl; have hcz33_7 : w32.cell? ⟨gb107, 7, none⟩ = some (.int .u32 a0_7) := (blk_cell BK107.out 7).trans rfl; have hcz33_8 : w32.cell? ⟨gb107, 8, none⟩ = some (.int .u32 a0_8) := (blk_cell BK107.out 8).trans rfl; have hcz33_9 : w32.cell? ⟨gb107, 9, none⟩ = some (.int .u32 a0_9) := (blk_cell BK107.out 9).trans rfl; have hcz33_10 : w32.cell? ⟨gb107, 10, none⟩ = some (.int .u32 a0_10) := (blk_cell BK107.out 10).trans rfl; have hcz33_11 : w32.cell? ⟨gb107, 11, none⟩ = some (.int .u32 a0_11) := (blk_cell BK107.out 11).trans rfl; have hcz33_12 : w32.cell? ⟨gb107, 12, none⟩ = some (.int .u32 a0_12) := (blk_cell BK107.out 12).trans rfl; have hfz33_0 := blk_frozen BK107.out 0; have hfz33_1 := blk_frozen BK107.out 1; have hfz33_2 := blk_frozen BK107.out 2; have hfz33_3 := blk_frozen BK107.out 3; have hfz33_4 := blk_frozen BK107.out 4; have hfz33_5 := blk_frozen BK107.out 5; have hfz33_6 := blk_frozen BK107.out 6; have hfz33_7 := blk_frozen BK107.out 7; have hfz33_8 := blk_frozen BK107.out 8; have hfz33_9 := blk_frozen BK107.out 9; have hfz33_10 := blk_frozen BK107.out 10; have hfz33_11 := blk_frozen BK107.out 11; have hfz33_12 := blk_frozen BK107.out 12) | ((with_reducible refine gate_callee (f := 36) rfl ?_); refine goesL_ (some 5) rfl rfl Try.func36 (by kernel_rfl) rfl #[.int .i64 a0_0, .int .i64 0, .int .i64 1152921504606846976] rfl (by (try simp only [List.map_toArray, List.map_cons, List.map_nil]); first | done | rfl | (simp only [List.length_drop, List.length_take]; rfl)) ?_; (with_reducible refine (lookoutref16_within.calls a0_0 0 1152921504606846976 false _ A2.out).mono ?_); rintro e w' ⟨rfl, ⟨nd, rfl⟩⟩; refine ⟨_, rfl, ?_⟩))
    go_ret
    exact ⟨by first | rfl | (simp [errW_none, errW_some] <;> rfl) | (simp [*, errW_none, errW_some] <;> rfl), by repeat (first | (with_reducible first | exact HB.out | apply below_alloc | apply pw_below_drewN | apply below_drew1 | refine below_set ?_ GE107.out) | exact HB.out)⟩

end Go.Proofs.Ytdokabaeddaipaa.A
end
section
namespace Go.Proofs.Ytdokabaeddaipaa.A
open Go.RowKit Go.Proofs.YtdokabaeddaipaaW.PrintWords Go.Proofs.YtdokabaeddaipaaW.PrintLast Go.Proofs.YtdokabaeddaipaaW.PrintMore Go.Proofs.Ytdokabaeddaipaa.Hand
attribute [local go_sem] max2_int min2_int max_two min_two max_three min_three max_four min_four   -- for this text's walks alone
set_option linter.unusedVariables false
set_option linter.unusedSimpArgs false

-- NOT PRINTED: function 52 (slices_IndexFunc_string_string)

end Go.Proofs.Ytdokabaeddaipaa.A
end
section
namespace Go.Proofs.Ytdokabaeddaipaa.A
open Go.RowKit Go.Proofs.YtdokabaeddaipaaW.PrintWords Go.Proofs.YtdokabaeddaipaaW.PrintLast Go.Proofs.YtdokabaeddaipaaW.PrintMore Go.Proofs.Ytdokabaeddaipaa.Hand
attribute [local go_sem] max2_int min2_int max_two min_two max_three min_three max_four min_four   -- for this text's walks alone
set_option linter.unusedVariables false
set_option linter.unusedSimpArgs false

-- NOT PRINTED: function 32 (slices_ContainsFunc_string_string)

end Go.Proofs.Ytdokabaeddaipaa.A
end
section
namespace Go.Proofs.Ytdokabaeddaipaa.A
open Go.RowKit Go.Proofs.YtdokabaeddaipaaW.PrintWords Go.Proofs.YtdokabaeddaipaaW.PrintLast Go.Proofs.YtdokabaeddaipaaW.PrintMore Go.Proofs.Ytdokabaeddaipaa.Hand
attribute [local go_sem] max2_int min2_int max_two min_two max_three min_three max_four min_four   -- for this text's walks alone
set_option linter.unusedVariables false
set_option linter.unusedSimpArgs false

-- NOT PRINTED: function 32 (contains_long)

end Go.Proofs.Ytdokabaeddaipaa.A
end
section
namespace Go.Proofs.Ytdokabaeddaipaa.A
open Go.RowKit Go.Proofs.YtdokabaeddaipaaW.PrintWords Go.Proofs.YtdokabaeddaipaaW.PrintLast Go.Proofs.YtdokabaeddaipaaW.PrintMore Go.Proofs.Ytdokabaeddaipaa.Hand
attribute [local go_sem] max2_int min2_int max_two min_two max_three min_three max_four min_four   -- for this text's walks alone
set_option linter.unusedVariables false
set_option linter.unusedSimpArgs false

-- NOT PRINTED: function 11 (lookoutlaw16_short)

end Go.Proofs.Ytdokabaeddaipaa.A
end
section
namespace Go.Proofs.Ytdokabaeddaipaa.A
open Go.RowKit Go.Proofs.YtdokabaeddaipaaW.PrintWords Go.Proofs.YtdokabaeddaipaaW.PrintLast Go.Proofs.YtdokabaeddaipaaW.PrintMore Go.Proofs.Ytdokabaeddaipaa.Hand
attribute [local go_sem] max2_int min2_int max_two min_two max_three min_three max_four min_four   -- for this text's walks alone
set_option linter.unusedVariables false
set_option linter.unusedSimpArgs false

/-! ### slices_Index_string_string: function 56 -/
def slices_Index_string_string.l0 : Nat → List ByteArray → ByteArray → Int → Int → Option (Int)
  | 0, _, _, _, _ => none
  | k + 1, x0, x1, x7, x8 => if x8 < x7 then (if 0 ≤ x8 then (if x8 < (x0.length : Int) then (if x1.toList = (rdOf ByteArray.empty x0 x8).toList then (some x8) else (slices_Index_string_string.l0 k x0 x1 x7 (wrap64 (x8 + 1)))) else (none)) else (none)) else (some (-1))
def slices_Index_string_string.f (k : Nat) (l0 : List ByteArray) (a1 : ByteArray) : Option (Int) := slices_Index_string_string.l0 k l0 a1 (l0.length : Int) 0
theorem slices_Index_string_string.mono_l : ∀ k, (∀ y0 y1 y2 y3, LeO (slices_Index_string_string.l0 k y0 y1 y2 y3) (slices_Index_string_string.l0 (k + 1) y0 y1 y2 y3))
  | 0 => fun _ _ _ _ r h => by simp [slices_Index_string_string.l0] at h
  | k + 1 => by
    have ih0 := slices_Index_string_string.mono_l k
    · intro y0 y1 y2 y3
      unfold slices_Index_string_string.l0
      repeat' first
      | (with_reducible exact ih0 _ _ _ _)
      | (with_reducible exact LeO.refl _)
      | (with_reducible exact LeO.none _)
      | (with_reducible refine LeO.ite ?_ ?_)
      | (with_reducible refine LeO.bind ?_ (fun _ => ?_))
      | exact ih0 _ _ _ _
      | exact LeO.none _
      | refine LeO.ite ?_ ?_
      | refine LeO.bind ?_ (fun _ => ?_)
theorem slices_Index_string_string.mono : ∀ a0 a1 k, LeO (slices_Index_string_string.f k a0 a1) (slices_Index_string_string.f (k + 1) a0 a1) := by
  intro a0 a1 k
  have ih0 := slices_Index_string_string.mono_l k
  unfold slices_Index_string_string.f
  repeat' first
      | (with_reducible exact ih0 _ _ _ _)
      | (with_reducible exact LeO.refl _)
      | (with_reducible exact LeO.none _)
      | (with_reducible refine LeO.ite ?_ ?_)
      | (with_reducible refine LeO.bind ?_ (fun _ => ?_))
      | exact ih0 _ _ _ _
      | exact LeO.none _
      | refine LeO.ite ?_ ?_
      | refine LeO.bind ?_ (fun _ => ?_)
set_option maxHeartbeats 8000000 in
set_option maxRecDepth 100000 in
theorem slices_Index_string_string.calls (k : Nat) (A0 : Option Addr) (c0 : Nat) (l0 : List ByteArray) (a1 : ByteArray) (r : Int) (w : World) (hr0 : Kd.C Kd.string w A0 l0.length l0) (hc0 : l0.length ≤ c0) (h : slices_Index_string_string.f k l0 a1 = some r) :
    Calls Try.prog 56 #[.slice A0 l0.length c0, .string a1] w fun e w' => e = .returned (.int .i64 r) ∧ Drawn0 w w' := by
  have HR0 := Aside0.mk hr0
  have HC0 := Aside0.mk hc0
  clear hr0 hc0
  have H : (slices_Index_string_string.l0 k l0 a1 (l0.length : Int) 0) = some r := h
  clear h
  have H' := Aside0.mk H
  clear H
  go_enter Try.func56, Try.ntmps56
  go_wp2
  go_loopg [8] k (fun kq v8 w' => ∃ (x8_1 : Int), v8 = .int .i64 x8_1 ∧ Aside0 (slices_Index_string_string.l0 kq l0 a1 (l0.length : Int) x8_1 = some r) ∧ Aside0 (kq ≤ k) ∧ Drawn0 w w')
  case atStart => exact ⟨(0), (by first | rfl | (simp; done) | (simp [*]; done)), H', ⟨Nat.le_refl _⟩, by repeat (first | exact Drawn0.refl _ | apply Drawn0.step)⟩
  case round =>
    clear H'
    try clear p2
    obtain ⟨x8_1, rfl, HA, HK1, ⟨m1, rfl⟩⟩ := hrel
    cases gk with
    | zero => exact absurd HA.out (by simp [slices_Index_string_string.l0])
    | succ k1 =>
      have H := HA.out
      clear HA
      simp only [slices_Index_string_string.l0] at H
      by_cases c3 : x8_1 < (l0.length : Int)
      · rw [if_pos c3] at H
        have c3b0 : decide (x8_1 < (l0.length : Int)) = true := decide_eq_true c3
        clear c3
        by_cases c4 : 0 ≤ x8_1
        · rw [if_pos c4] at H
          have c4b0 : decide (0 ≤ x8_1) = true := decide_eq_true c4
          clear c4
          by_cases c5 : x8_1 < (l0.length : Int)
          · rw [if_pos c5] at H
            have c5b0 : decide (x8_1 < (l0.length : Int)) = true := decide_eq_true c5
            clear c5
            by_cases c6 : a1.toList = (rdOf ByteArray.empty l0 x8_1).toList
            · rw [if_pos c6] at H
              have c6b0 : (a1.toList == (rdOf ByteArray.empty l0 x8_1).toList) = true := beq_iff_eq.mpr c6
              have c6b1 : (a1.toList != (rdOf ByteArray.empty l0 x8_1).toList) = false := bne_eq_false_iff_eq.mpr c6
              clear c6
              obtain rfl := Option.some.inj H
              have p113 : 0 ≤ (x8_1 : Int) := of_decide_eq_true (by first | (with_reducible assumption) | assumption)
              have q113 : x8_1 < (l0.length : Int) := of_decide_eq_true (by first | (with_reducible assumption) | assumption)
              obtain ⟨ad113, e113, hx113_0⟩ := Kd.at_string HR0.out x8_1 p113 q113
              cases e113
              replace p113 := eq_true p113
              replace q113 := eq_true q113
              go_wp2
              go_ret
              exact ⟨by first | rfl | (simp; done) | (simp [*]; done), by repeat (first | exact Drawn0.refl _ | apply Drawn0.step)⟩
            · rw [if_neg c6] at H
              have c6b0 : (a1.toList == (rdOf ByteArray.empty l0 x8_1).toList) = false := beq_eq_false_iff_ne.mpr c6
              have c6b1 : (a1.toList != (rdOf ByteArray.empty l0 x8_1).toList) = true := bne_iff_ne.mpr c6
              have H' := Aside0.mk H
              clear H
              have p113 : 0 ≤ (x8_1 : Int) := of_decide_eq_true (by first | (with_reducible assumption) | assumption)
              have q113 : x8_1 < (l0.length : Int) := of_decide_eq_true (by first | (with_reducible assumption) | assumption)
              obtain ⟨ad113, e113, hx113_0⟩ := Kd.at_string HR0.out x8_1 p113 q113
              cases e113
              replace p113 := eq_true p113
              replace q113 := eq_true q113
              go_wp2
              go_roundg k1
              case measure => have := HK1.out; omega
              case rel => exact ⟨(wrap64 (x8_1 + 1)), (by first | rfl | (simp; done) | (simp [*]; done)), H', ⟨by have := HK1.out; omega⟩, by repeat (first | exact Drawn0.refl _ | apply Drawn0.step)⟩
          · rw [if_neg c5] at H
            exact absurd H (by simp)
        · rw [if_neg c4] at H
          exact absurd H (by simp)
      · rw [if_neg c3] at H
        have c3b0 : decide (x8_1 < (l0.length : Int)) = false := decide_eq_false c3
        clear c3
        obtain rfl := Option.some.inj H
        go_wp2
        go_ret
        exact ⟨by first | rfl | (simp; done) | (simp [*]; done), by repeat (first | exact Drawn0.refl _ | apply Drawn0.step)⟩

end Go.Proofs.Ytdokabaeddaipaa.A
end
section
namespace Go.Proofs.Ytdokabaeddaipaa.A
open Go.RowKit Go.Proofs.YtdokabaeddaipaaW.PrintWords Go.Proofs.YtdokabaeddaipaaW.PrintLast Go.Proofs.YtdokabaeddaipaaW.PrintMore Go.Proofs.Ytdokabaeddaipaa.Hand
attribute [local go_sem] max2_int min2_int max_two min_two max_three min_three max_four min_four   -- for this text's walks alone
set_option linter.unusedVariables false
set_option linter.unusedSimpArgs false

/-! ### slices_Contains_string_string: function 40 -/
def slices_Contains_string_string.f (k : Nat) (l0 : List ByteArray) (a1 : ByteArray) : Option (Bool) := (slices_Index_string_string.f k l0 a1).bind fun t114 => (some (decide (t114 ≥ 0)))
theorem slices_Contains_string_string.mono : ∀ a0 a1 k, LeO (slices_Contains_string_string.f k a0 a1) (slices_Contains_string_string.f (k + 1) a0 a1) := by
  intro a0 a1 k
  unfold slices_Contains_string_string.f
  repeat' first
      | (with_reducible exact slices_Index_string_string.mono _ _ _)
      | (with_reducible exact LeO.refl _)
      | (with_reducible exact LeO.none _)
      | (with_reducible refine LeO.ite ?_ ?_)
      | (with_reducible refine LeO.bind ?_ (fun _ => ?_))
      | exact slices_Index_string_string.mono _ _ _
      | exact LeO.none _
      | refine LeO.ite ?_ ?_
      | refine LeO.bind ?_ (fun _ => ?_)
set_option maxHeartbeats 8000000 in
set_option maxRecDepth 100000 in
theorem slices_Contains_string_string.calls (k : Nat) (A0 : Option Addr) (c0 : Nat) (l0 : List ByteArray) (a1 : ByteArray) (r : Bool) (w : World) (hr0 : Kd.C Kd.string w A0 l0.length l0) (hc0 : l0.length ≤ c0) (h : slices_Contains_string_string.f k l0 a1 = some r) :
    Calls Try.prog 40 #[.slice A0 l0.length c0, .string a1] w fun e w' => e = .returned (.bool r) ∧ Drawn0 w w' := by
  have HR0 := Aside0.mk hr0
  have HC0 := Aside0.mk hc0
  clear hr0 hc0
  have H : ((slices_Index_string_string.f k l0 a1).bind fun t114 => (some (decide (t114 ≥ 0)))) = some r := h
  clear h
  replace H := Option.bind_eq_some_iff.mp H
  obtain ⟨t114, A30, H⟩ := H
  replace H : (some (decide (t114 ≥ 0))) = some r := H
  have A3 := Aside0.mk A30
  clear A30
  obtain rfl := Option.some.inj H
  go_enter Try.func40, Try.ntmps40
  go_wp2_with (first | ((with_reducible refine gate_callee (f := 56) rfl ?_); refine goesL_ (some 7) rfl rfl Try.func56 (by kernel_rfl) rfl #[.slice A0 l0.length c0, .string a1] rfl (by (try simp only [List.map_toArray, List.map_cons, List.map_nil]); first | done | rfl | (simp only [List.length_drop, List.length_take]; rfl)) ?_; (with_reducible refine (slices_Index_string_string.calls k _ _ l0 a1 t114 _ ?side1 ?side2 A3.out).mono ?_); (case side1 => repeat (first | exact HR0.out | (with_reducible refine Kd.C_alloc ?_ _) | (with_reducible refine Kd.C_drewN ?_ _) | (with_reducible refine Kd.C_drew ?_))); (case side2 => exact HC0.out); rintro e w' ⟨rfl, ⟨nd, rfl⟩⟩; refine ⟨_, rfl, ?_⟩))
  go_ret
  exact ⟨by first | rfl | (simp; done) | (simp [*]; done), by repeat (first | exact Drawn0.refl _ | apply Drawn0.step)⟩

end Go.Proofs.Ytdokabaeddaipaa.A
end
section
namespace Go.Proofs.Ytdokabaeddaipaa.A
open Go.RowKit Go.Proofs.YtdokabaeddaipaaW.PrintWords Go.Proofs.YtdokabaeddaipaaW.PrintLast Go.Proofs.YtdokabaeddaipaaW.PrintMore Go.Proofs.Ytdokabaeddaipaa.Hand
attribute [local go_sem] max2_int min2_int max_two min_two max_three min_three max_four min_four   -- for this text's walks alone
set_option linter.unusedVariables false
set_option linter.unusedSimpArgs false

/-! ### lookoutlaw16_satisfies: function 25 -/
def lookoutlaw16_satisfies.l0 : Nat → List ByteArray → Int → Int → Int → Int → List ByteArray → Int → Int → Bool → Int → Int → List ByteArray → Option (Bool)
  | 0, _, _, _, _, _, _, _, _, _, _, _, _ => none
  | k + 1, x8, x9, x10, x116000, x116001, x116002, x117000, x117001, x117002, x117003, x117004, x117005 => if x10 < x9 then (if 0 ≤ x10 then (if x10 < (x8.length : Int) then ((slices_Contains_string_string.f k x116002 (rdOf ByteArray.empty x8 x10)).bind fun t118 => (if t118 = true then (lookoutlaw16_satisfies.l0 k x8 x9 (wrap64 (x10 + 1)) x116000 x116001 x116002 x117000 x117001 x117002 x117003 x117004 x117005) else (some false))) else (none)) else (none)) else (if x117000 < x116000 then (if x116000 ≤ x117001 then (if x117002 = true then (if x117003 ≤ x116001 then (some (decide (x116001 ≤ x117004))) else (some false)) else (some true)) else (some false)) else (some false))
def lookoutlaw16_satisfies.f (k : Nat) (a0_0 : Int) (a0_1 : Int) (l0_2 : List ByteArray) (a1_0 : Int) (a1_1 : Int) (a1_2 : Bool) (a1_3 : Int) (a1_4 : Int) (l1_5 : List ByteArray) : Option (Bool) := lookoutlaw16_satisfies.l0 k l1_5 (l1_5.length : Int) 0 a0_0 a0_1 l0_2 a1_0 a1_1 a1_2 a1_3 a1_4 l1_5
theorem lookoutlaw16_satisfies.mono_l : ∀ k, (∀ y0 y1 y2 y3 y4 y5 y6 y7 y8 y9 y10 y11, LeO (lookoutlaw16_satisfies.l0 k y0 y1 y2 y3 y4 y5 y6 y7 y8 y9 y10 y11) (lookoutlaw16_satisfies.l0 (k + 1) y0 y1 y2 y3 y4 y5 y6 y7 y8 y9 y10 y11))
  | 0 => fun _ _ _ _ _ _ _ _ _ _ _ _ r h => by simp [lookoutlaw16_satisfies.l0] at h
  | k + 1 => by
    have ih0 := lookoutlaw16_satisfies.mono_l k
    · intro y0 y1 y2 y3 y4 y5 y6 y7 y8 y9 y10 y11
      unfold lookoutlaw16_satisfies.l0
      repeat' first
      | (with_reducible exact ih0 _ _ _ _ _ _ _ _ _ _ _ _)
      | (with_reducible exact slices_Contains_string_string.mono _ _ _)
      | (with_reducible exact LeO.refl _)
      | (with_reducible exact LeO.none _)
      | (with_reducible refine LeO.ite ?_ ?_)
      | (with_reducible refine LeO.bind ?_ (fun _ => ?_))
      | exact ih0 _ _ _ _ _ _ _ _ _ _ _ _
      | exact slices_Contains_string_string.mono _ _ _
      | exact LeO.none _
      | refine LeO.ite ?_ ?_
      | refine LeO.bind ?_ (fun _ => ?_)
theorem lookoutlaw16_satisfies.mono : ∀ a0 a1 a2 a3 a4 a5 a6 a7 a8 k, LeO (lookoutlaw16_satisfies.f k a0 a1 a2 a3 a4 a5 a6 a7 a8) (lookoutlaw16_satisfies.f (k + 1) a0 a1 a2 a3 a4 a5 a6 a7 a8) := by
  intro a0 a1 a2 a3 a4 a5 a6 a7 a8 k
  have ih0 := lookoutlaw16_satisfies.mono_l k
  unfold lookoutlaw16_satisfies.f
  repeat' first
      | (with_reducible exact ih0 _ _ _ _ _ _ _ _ _ _ _ _)
      | (with_reducible exact slices_Contains_string_string.mono _ _ _)
      | (with_reducible exact LeO.refl _)
      | (with_reducible exact LeO.none _)
      | (with_reducible refine LeO.ite ?_ ?_)
      | (with_reducible refine LeO.bind ?_ (fun _ => ?_))
      | exact ih0 _ _ _ _ _ _ _ _ _ _ _ _
      | exact slices_Contains_string_string.mono _ _ _
      | exact LeO.none _
      | refine LeO.ite ?_ ?_
      | refine LeO.bind ?_ (fun _ => ?_)
set_option maxHeartbeats 8000000 in
set_option maxRecDepth 100000 in
theorem lookoutlaw16_satisfies.calls (k : Nat) (a0_0 : Int) (a0_1 : Int) (A0_2 : Option Addr) (c0_2 : Nat) (l0_2 : List ByteArray) (a1_0 : Int) (a1_1 : Int) (a1_2 : Bool) (a1_3 : Int) (a1_4 : Int) (A1_5 : Option Addr) (c1_5 : Nat) (l1_5 : List ByteArray) (r : Bool) (w : World) (hr0_2 : Kd.C Kd.string w A0_2 l0_2.length l0_2) (hc0_2 : l0_2.length ≤ c0_2) (hr1_5 : Kd.C Kd.string w A1_5 l1_5.length l1_5) (hc1_5 : l1_5.length ≤ c1_5) (h : lookoutlaw16_satisfies.f k a0_0 a0_1 l0_2 a1_0 a1_1 a1_2 a1_3 a1_4 l1_5 = some r) :
    Calls Try.prog 25 #[.agg #[.int .i64 a0_0, .int .i64 a0_1, .slice A0_2 l0_2.length c0_2], .agg #[.int .i64 a1_0, .int .i64 a1_1, .bool a1_2, .int .i64 a1_3, .int .i64 a1_4, .slice A1_5 l1_5.length c1_5]] w fun e w' => e = .returned (.bool r) ∧ Below w.heap.size w w' := by
  have hu40 := Try.underlying40
  have hu35 := Try.underlying35
  have HR0_2 := Aside0.mk hr0_2
  have HC0_2 := Aside0.mk hc0_2
  clear hr0_2 hc0_2
  have HR1_5 := Aside0.mk hr1_5
  have HC1_5 := Aside0.mk hc1_5
  clear hr1_5 hc1_5
  have HB := Aside0.mk (Below.refl w.heap.size w)
  have H : (lookoutlaw16_satisfies.l0 k l1_5 (l1_5.length : Int) 0 a0_0 a0_1 l0_2 a1_0 a1_1 a1_2 a1_3 a1_4 l1_5) = some r := h
  clear h
  have H' := Aside0.mk H
  clear H
  go_enter Try.func25, Try.ntmps25
  go_wp2_with (first | ((with_reducible refine gate_dst (N := 2) rfl ?_); refine box_event ?hg (N := 2) ?hd (cs := #[.int .i64 a0_0, .int .i64 a0_1, .slice A0_2 l0_2.length c0_2]) (t := 40) ?hr ?_; (case hd => rfl); (case hg => rfl); (case hr => first | (go_simp; done) | (go_simp; rfl)); intro gb115 hg w3 hbox hb; have n0_ := Aside0.mk (below_step (by repeat (first | (with_reducible first | exact HB.out | apply below_alloc | apply pw_below_drewN | apply below_drew1) | exact HB.out)) hb); have n1_ := Aside0.mk (hbox); have n2_ := Aside0.mk ((by rw [hg]; exact (below_size (by repeat (first | (with_reducible first | exact HB.out | apply below_alloc | apply pw_below_drewN | apply below_drew1) | exact HB.out))) : w.heap.size ≤ gb115)); have n3_ := Aside0.mk ((by rw [hg]; exact (below_size (by repeat (first | (with_reducible first | exact HB.out | apply below_alloc | apply pw_below_drewN | apply below_drew1) | exact HB.out))) : w.heap.size ≤ gb115)); clear HB; have HB := n0_; have BK115 := n1_; have GW115 := n2_; have GE115 := n3_; clear n0_ n1_ n2_ n3_; clear hb hbox hg) | ((with_reducible refine gate_dst (N := 3) rfl ?_); refine box_event ?hg (N := 3) ?hd (cs := #[.int .i64 a1_0, .int .i64 a1_1, .bool a1_2, .int .i64 a1_3, .int .i64 a1_4, .slice A1_5 l1_5.length c1_5]) (t := 35) ?hr ?_; (case hd => rfl); (case hg => rfl); (case hr => first | (go_simp; done) | (go_simp; rfl)); intro gb116 hg w4 hbox hb; have n0_ := Aside0.mk (blk_below (g := gb115) (o := .cells #[.int .i64 a0_0, .int .i64 a0_1, .slice A0_2 l0_2.length c0_2] 40 (0, 0)) (by (with_reducible repeat (first | refine blk_drewN ?_ _ | refine blk_drew ?_ | refine blk_alloc ?_ _)); exact BK115.out) hb); have n1_ := Aside0.mk (below_step (by repeat (first | (with_reducible first | exact HB.out | apply below_alloc | apply pw_below_drewN | apply below_drew1 | refine below_set ?_ GE115.out) | exact HB.out)) hb); have n2_ := Aside0.mk (hbox); have n3_ := Aside0.mk ((by rw [hg]; exact (below_size (by repeat (first | (with_reducible first | exact HB.out | apply below_alloc | apply pw_below_drewN | apply below_drew1 | refine below_set ?_ GE115.out) | exact HB.out))) : w.heap.size ≤ gb116)); have n4_ := Aside0.mk ((by rw [hg]; exact (below_size (by repeat (first | (with_reducible first | exact HB.out | apply below_alloc | apply pw_below_drewN | apply below_drew1 | refine below_set ?_ GE115.out) | exact HB.out))) : w.heap.size ≤ gb116)); have n5_ := Aside0.mk ((by rw [hg]; exact Nat.ne_of_lt (blk_lt (g := gb115) (o := .cells #[.int .i64 a0_0, .int .i64 a0_1, .slice A0_2 l0_2.length c0_2] 40 (0, 0)) (by (with_reducible repeat (first | refine blk_drewN ?_ _ | refine blk_drew ?_ | refine blk_alloc ?_ _)); exact BK115.out)) : gb115 ≠ gb116)); have n6_ := Aside0.mk ((by rw [hg]; exact Nat.ne_of_gt (blk_lt (g := gb115) (o := .cells #[.int .i64 a0_0, .int .i64 a0_1, .slice A0_2 l0_2.length c0_2] 40 (0, 0)) (by (with_reducible repeat (first | refine blk_drewN ?_ _ | refine blk_drew ?_ | refine blk_alloc ?_ _)); exact BK115.out)) : gb116 ≠ gb115)); clear BK115; clear HB; have BK115 := n0_; have HB := n1_; have BK116 := n2_; have GW116 := n3_; have GE116 := n4_; have NB115_116 := n5_; have NB116_115 := n6_; clear n0_ n1_ n2_ n3_ n4_ n5_ n6_; clear hb hbox hg; have hnb5 := NB116_115.out; have hnc5 := NB115_116.out; have hcz6_0 : w4.cell? ⟨gb116, 0, none⟩ = some (.int .i64 a1_0) := (blk_cell BK116.out 0).trans rfl; have hcz6_1 : w4.cell? ⟨gb116, 1, none⟩ = some (.int .i64 a1_1) := (blk_cell BK116.out 1).trans rfl; have hcz6_2 : w4.cell? ⟨gb116, 2, none⟩ = some (.bool a1_2) := (blk_cell BK116.out 2).trans rfl; have hcz6_3 : w4.cell? ⟨gb116, 3, none⟩ = some (.int .i64 a1_3) := (blk_cell BK116.out 3).trans rfl; have hcz6_4 : w4.cell? ⟨gb116, 4, none⟩ = some (.int .i64 a1_4) := (blk_cell BK116.out 4).trans rfl; have hcz6_5 : w4.cell? ⟨gb116, 5, none⟩ = some (.slice A1_5 l1_5.length c1_5) := (blk_cell BK116.out 5).trans rfl; have hfz6_0 := blk_frozen BK116.out 0; have hfz6_1 := blk_frozen BK116.out 1; have hfz6_2 := blk_frozen BK116.out 2; have hfz6_3 := blk_frozen BK116.out 3; have hfz6_4 := blk_frozen BK116.out 4; have hfz6_5 := blk_frozen BK116.out 5))
  go_loopg [10] k (fun kq v10 w' => ∃ (x10_1 : Int), v10 = .int .i64 x10_1 ∧ Aside0 (lookoutlaw16_satisfies.l0 kq l1_5 (l1_5.length : Int) x10_1 a0_0 a0_1 l0_2 a1_0 a1_1 a1_2 a1_3 a1_4 l1_5 = some r) ∧ Aside0 (kq ≤ k) ∧ Aside0 (w'.heap[gb115]? = some (.cells #[.int .i64 a0_0, .int .i64 a0_1, (.slice A0_2 l0_2.length c0_2)] 40 (0, 0))) ∧ Aside0 (w'.heap[gb116]? = some (.cells #[.int .i64 a1_0, .int .i64 a1_1, .bool a1_2, .int .i64 a1_3, .int .i64 a1_4, (.slice A1_5 l1_5.length c1_5)] 35 (0, 0))) ∧ Aside0 (Below w.heap.size w w'))
  case atStart => exact ⟨(0), (by first | rfl | (simp; done) | (simp [*]; done)), H', ⟨Nat.le_refl _⟩, ⟨by (with_reducible repeat (first | refine blk_drewN ?_ _ | refine blk_drew ?_ | refine blk_alloc ?_ _)); exact BK115.out⟩, ⟨by (with_reducible repeat (first | refine blk_drewN ?_ _ | refine blk_drew ?_ | refine blk_alloc ?_ _)); exact BK116.out⟩, ⟨by repeat (first | (with_reducible first | exact HB.out | apply below_alloc | apply pw_below_drewN | apply below_drew1 | refine below_set ?_ GE115.out | refine below_set ?_ GE116.out) | exact HB.out)⟩⟩
  case round =>
    clear H'
    try clear c1
    try clear c2
    try clear p2
    try clear c5
    try clear hcz6_0
    try clear hcz6_1
    try clear hcz6_2
    try clear hcz6_3
    try clear hcz6_4
    try clear hcz6_5
    try clear hfz6_0
    try clear hfz6_1
    try clear hfz6_2
    try clear hfz6_3
    try clear hfz6_4
    try clear hfz6_5
    obtain ⟨x10_1, rfl, HA, HK1, BK115, BK116, HB⟩ := hrel
    cases gk with
    | zero => exact absurd HA.out (by simp [lookoutlaw16_satisfies.l0])
    | succ k1 =>
      have H := HA.out
      clear HA
      simp only [lookoutlaw16_satisfies.l0] at H
      by_cases c7 : x10_1 < (l1_5.length : Int)
      · rw [if_pos c7] at H
        have c7b0 : decide (x10_1 < (l1_5.length : Int)) = true := decide_eq_true c7
        clear c7
        by_cases c8 : 0 ≤ x10_1
        · rw [if_pos c8] at H
          have c8b0 : decide (0 ≤ x10_1) = true := decide_eq_true c8
          clear c8
          by_cases c9 : x10_1 < (l1_5.length : Int)
          · rw [if_pos c9] at H
            have c9b0 : decide (x10_1 < (l1_5.length : Int)) = true := decide_eq_true c9
            clear c9
            replace H := Option.bind_eq_some_iff.mp H
            obtain ⟨t118, A100, H⟩ := H
            replace H : (if t118 = true then (lookoutlaw16_satisfies.l0 k1 l1_5 (l1_5.length : Int) (wrap64 (x10_1 + 1)) a0_0 a0_1 l0_2 a1_0 a1_1 a1_2 a1_3 a1_4 l1_5) else (some false)) = some r := H
            have A10 := Aside0.mk A100
            clear A100
            by_cases c11 : t118 = true
            · subst c11
              have H1 : (lookoutlaw16_satisfies.l0 k1 l1_5 (l1_5.length : Int) (wrap64 (x10_1 + 1)) a0_0 a0_1 l0_2 a1_0 a1_1 a1_2 a1_3 a1_4 l1_5) = some r := by rw [if_pos rfl] at H; exact H
              clear H
              have H := H1
              clear H1
              have H' := Aside0.mk H
              clear H
              have p117 : 0 ≤ (x10_1 : Int) := of_decide_eq_true (by first | (with_reducible assumption) | assumption)
              have q117 : x10_1 < (l1_5.length : Int) := of_decide_eq_true (by first | (with_reducible assumption) | assumption)
              obtain ⟨ad117, e117, hx117_0⟩ := Kd.at_string HR1_5.out x10_1 p117 q117
              cases e117
              replace hx117_0 := (HB.out.cell (World.block_lt_of_cell? w _ hx117_0)).trans hx117_0
              replace p117 := eq_true p117
              replace q117 := eq_true q117
              have hnb12 := NB115_116.out
              have hnc12 := NB116_115.out
              have hcz13_0 : wr.cell? ⟨gb115, 0, none⟩ = some (.int .i64 a0_0) := (blk_cell BK115.out 0).trans rfl
              have hcz13_1 : wr.cell? ⟨gb115, 1, none⟩ = some (.int .i64 a0_1) := (blk_cell BK115.out 1).trans rfl
              have hcz13_2 : wr.cell? ⟨gb115, 2, none⟩ = some (.slice A0_2 l0_2.length c0_2) := (blk_cell BK115.out 2).trans rfl
              have hfz13_0 := blk_frozen BK115.out 0
              have hfz13_1 := blk_frozen BK115.out 1
              have hfz13_2 := blk_frozen BK115.out 2
              go_wp2_with (first | ((with_reducible refine gate_callee (f := 40) rfl ?_); refine goesL_ (some 17) rfl rfl Try.func40 (by kernel_rfl) rfl #[.slice A0_2 l0_2.length c0_2, .string (rdOf ByteArray.empty l1_5 x10_1)] rfl (by (try simp only [List.map_toArray, List.map_cons, List.map_nil]); first | done | rfl | (simp only [List.length_drop, List.length_take]; rfl)) ?_; (with_reducible refine (slices_Contains_string_string.calls k1 _ _ l0_2 (rdOf ByteArray.empty l1_5 x10_1) true _ ?side1 ?side2 A10.out).mono ?_); (case side1 => repeat (first | exact (Kd.C_below HR0_2.out HB.out) | (with_reducible refine Kd.C_alloc ?_ _) | (with_reducible refine Kd.C_drewN ?_ _) | (with_reducible refine Kd.C_drew ?_))); (case side2 => exact HC0_2.out); rintro e w' ⟨rfl, ⟨nd, rfl⟩⟩; refine ⟨_, rfl, ?_⟩))
              go_roundg k1
              case measure => have := HK1.out; omega
              case rel => exact ⟨(wrap64 (x10_1 + 1)), (by first | rfl | (simp; done) | (simp [*]; done)), H', ⟨by have := HK1.out; omega⟩, ⟨by (with_reducible repeat (first | refine blk_drewN ?_ _ | refine blk_drew ?_ | refine blk_alloc ?_ _)); exact BK115.out⟩, ⟨by (with_reducible repeat (first | refine blk_drewN ?_ _ | refine blk_drew ?_ | refine blk_alloc ?_ _)); exact BK116.out⟩, ⟨by repeat (first | (with_reducible first | exact HB.out | apply below_alloc | apply pw_below_drewN | apply below_drew1 | refine below_set ?_ GE115.out | refine below_set ?_ GE116.out) | exact HB.out)⟩⟩
            · replace c11 := Bool.eq_false_iff.mpr c11
              subst c11
              have H1 : (some false) = some r := by rw [if_neg (show ¬ (false = true) by decide)] at H; exact H
              clear H
              have H := H1
              clear H1
              obtain rfl := Option.some.inj H
              have p117 : 0 ≤ (x10_1 : Int) := of_decide_eq_true (by first | (with_reducible assumption) | assumption)
              have q117 : x10_1 < (l1_5.length : Int) := of_decide_eq_true (by first | (with_reducible assumption) | assumption)
              obtain ⟨ad117, e117, hx117_0⟩ := Kd.at_string HR1_5.out x10_1 p117 q117
              cases e117
              replace hx117_0 := (HB.out.cell (World.block_lt_of_cell? w _ hx117_0)).trans hx117_0
              replace p117 := eq_true p117
              replace q117 := eq_true q117
              have hnb14 := NB115_116.out
              have hnc14 := NB116_115.out
              have hcz15_0 : wr.cell? ⟨gb115, 0, none⟩ = some (.int .i64 a0_0) := (blk_cell BK115.out 0).trans rfl
              have hcz15_1 : wr.cell? ⟨gb115, 1, none⟩ = some (.int .i64 a0_1) := (blk_cell BK115.out 1).trans rfl
              have hcz15_2 : wr.cell? ⟨gb115, 2, none⟩ = some (.slice A0_2 l0_2.length c0_2) := (blk_cell BK115.out 2).trans rfl
              have hfz15_0 := blk_frozen BK115.out 0
              have hfz15_1 := blk_frozen BK115.out 1
              have hfz15_2 := blk_frozen BK115.out 2
              go_wp2_with (first | ((with_reducible refine gate_callee (f := 40) rfl ?_); refine goesL_ (some 17) rfl rfl Try.func40 (by kernel_rfl) rfl #[.slice A0_2 l0_2.length c0_2, .string (rdOf ByteArray.empty l1_5 x10_1)] rfl (by (try simp only [List.map_toArray, List.map_cons, List.map_nil]); first | done | rfl | (simp only [List.length_drop, List.length_take]; rfl)) ?_; (with_reducible refine (slices_Contains_string_string.calls k1 _ _ l0_2 (rdOf ByteArray.empty l1_5 x10_1) false _ ?side1 ?side2 A10.out).mono ?_); (case side1 => repeat (first | exact (Kd.C_below HR0_2.out HB.out) | (with_reducible refine Kd.C_alloc ?_ _) | (with_reducible refine Kd.C_drewN ?_ _) | (with_reducible refine Kd.C_drew ?_))); (case side2 => exact HC0_2.out); rintro e w' ⟨rfl, ⟨nd, rfl⟩⟩; refine ⟨_, rfl, ?_⟩))
              go_ret
              exact ⟨by first | rfl | (simp [errW_none, errW_some] <;> rfl) | (simp [*, errW_none, errW_some] <;> rfl), by repeat (first | (with_reducible first | exact HB.out | apply below_alloc | apply pw_below_drewN | apply below_drew1 | refine below_set ?_ GE115.out | refine below_set ?_ GE116.out) | exact HB.out)⟩
          · rw [if_neg c9] at H
            exact absurd H (by simp)
        · rw [if_neg c8] at H
          exact absurd H (by simp)
      · rw [if_neg c7] at H
        have c7b0 : decide (x10_1 < (l1_5.length : Int)) = false := decide_eq_false c7
        clear c7
        by_cases c16 : a1_0 < a0_0
        · rw [if_pos c16] at H
          have c16b0 : decide (a1_0 < a0_0) = true := decide_eq_true c16
          clear c16
          by_cases c17 : a0_0 ≤ a1_1
          · rw [if_pos c17] at H
            have c17b0 : decide (a0_0 ≤ a1_1) = true := decide_eq_true c17
            clear c17
            by_cases c18 : a1_2 = true
            · subst c18
              have H1 : (if a1_3 ≤ a0_1 then (some (decide (a0_1 ≤ a1_4))) else (some false)) = some r := by rw [if_pos rfl] at H; exact H
              clear H
              have H := H1
              clear H1
              by_cases c19 : a1_3 ≤ a0_1
              · rw [if_pos c19] at H
                have c19b0 : decide (a1_3 ≤ a0_1) = true := decide_eq_true c19
                clear c19
                obtain rfl := Option.some.inj H
                have hnb20 := NB116_115.out
                have hnc20 := NB115_116.out
                have hcz21_0 : wr.cell? ⟨gb116, 0, none⟩ = some (.int .i64 a1_0) := (blk_cell BK116.out 0).trans rfl
                have hcz21_1 : wr.cell? ⟨gb116, 1, none⟩ = some (.int .i64 a1_1) := (blk_cell BK116.out 1).trans rfl
                have hcz21_2 : wr.cell? ⟨gb116, 2, none⟩ = some (.bool true) := (blk_cell BK116.out 2).trans rfl
                have hcz21_3 : wr.cell? ⟨gb116, 3, none⟩ = some (.int .i64 a1_3) := (blk_cell BK116.out 3).trans rfl
                have hcz21_4 : wr.cell? ⟨gb116, 4, none⟩ = some (.int .i64 a1_4) := (blk_cell BK116.out 4).trans rfl
                have hcz21_5 : wr.cell? ⟨gb116, 5, none⟩ = some (.slice A1_5 l1_5.length c1_5) := (blk_cell BK116.out 5).trans rfl
                have hfz21_0 := blk_frozen BK116.out 0
                have hfz21_1 := blk_frozen BK116.out 1
                have hfz21_2 := blk_frozen BK116.out 2
                have hfz21_3 := blk_frozen BK116.out 3
                have hfz21_4 := blk_frozen BK116.out 4
                have hfz21_5 := blk_frozen BK116.out 5
                have hcz22_0 : wr.cell? ⟨gb115, 0, none⟩ = some (.int .i64 a0_0) := (blk_cell BK115.out 0).trans rfl
                have hcz22_1 : wr.cell? ⟨gb115, 1, none⟩ = some (.int .i64 a0_1) := (blk_cell BK115.out 1).trans rfl
                have hcz22_2 : wr.cell? ⟨gb115, 2, none⟩ = some (.slice A0_2 l0_2.length c0_2) := (blk_cell BK115.out 2).trans rfl
                have hfz22_0 := blk_frozen BK115.out 0
                have hfz22_1 := blk_frozen BK115.out 1
                have hfz22_2 := blk_frozen BK115.out 2
                go_wp2
                go_ret
                exact ⟨by first | rfl | (simp [errW_none, errW_some] <;> rfl) | (simp [*, errW_none, errW_some] <;> rfl), by repeat (first | (with_reducible first | exact HB.out | apply below_alloc | apply pw_below_drewN | apply below_drew1 | refine below_set ?_ GE115.out | refine below_set ?_ GE116.out) | exact HB.out)⟩
              · rw [if_neg c19] at H
                have c19b0 : decide (a1_3 ≤ a0_1) = false := decide_eq_false c19
                clear c19
                obtain rfl := Option.some.inj H
                have hnb23 := NB116_115.out
                have hnc23 := NB115_116.out
                have hcz24_0 : wr.cell? ⟨gb116, 0, none⟩ = some (.int .i64 a1_0) := (blk_cell BK116.out 0).trans rfl
                have hcz24_1 : wr.cell? ⟨gb116, 1, none⟩ = some (.int .i64 a1_1) := (blk_cell BK116.out 1).trans rfl
                have hcz24_2 : wr.cell? ⟨gb116, 2, none⟩ = some (.bool true) := (blk_cell BK116.out 2).trans rfl
                have hcz24_3 : wr.cell? ⟨gb116, 3, none⟩ = some (.int .i64 a1_3) := (blk_cell BK116.out 3).trans rfl
                have hcz24_4 : wr.cell? ⟨gb116, 4, none⟩ = some (.int .i64 a1_4) := (blk_cell BK116.out 4).trans rfl
                have hcz24_5 : wr.cell? ⟨gb116, 5, none⟩ = some (.slice A1_5 l1_5.length c1_5) := (blk_cell BK116.out 5).trans rfl
                have hfz24_0 := blk_frozen BK116.out 0
                have hfz24_1 := blk_frozen BK116.out 1
                have hfz24_2 := blk_frozen BK116.out 2
                have hfz24_3 := blk_frozen BK116.out 3
                have hfz24_4 := blk_frozen BK116.out 4
                have hfz24_5 := blk_frozen BK116.out 5
                have hcz25_0 : wr.cell? ⟨gb115, 0, none⟩ = some (.int .i64 a0_0) := (blk_cell BK115.out 0).trans rfl
                have hcz25_1 : wr.cell? ⟨gb115, 1, none⟩ = some (.int .i64 a0_1) := (blk_cell BK115.out 1).trans rfl
                have hcz25_2 : wr.cell? ⟨gb115, 2, none⟩ = some (.slice A0_2 l0_2.length c0_2) := (blk_cell BK115.out 2).trans rfl
                have hfz25_0 := blk_frozen BK115.out 0
                have hfz25_1 := blk_frozen BK115.out 1
                have hfz25_2 := blk_frozen BK115.out 2
                go_wp2
                go_ret
                exact ⟨by first | rfl | (simp [errW_none, errW_some] <;> rfl) | (simp [*, errW_none, errW_some] <;> rfl), by repeat (first | (with_reducible first | exact HB.out | apply below_alloc | apply pw_below_drewN | apply below_drew1 | refine below_set ?_ GE115.out | refine below_set ?_ GE116.out) | exact HB.out)⟩
            · replace c18 := Bool.eq_false_iff.mpr c18
              subst c18
              have H1 : (some true) = some r := by rw [if_neg (show ¬ (false = true) by decide)] at H; exact H
              clear H
              have H := H1
              clear H1
              obtain rfl := Option.some.inj H
              have hnb26 := NB116_115.out
              have hnc26 := NB115_116.out
              have hcz27_0 : wr.cell? ⟨gb116, 0, none⟩ = some (.int .i64 a1_0) := (blk_cell BK116.out 0).trans rfl
              have hcz27_1 : wr.cell? ⟨gb116, 1, none⟩ = some (.int .i64 a1_1) := (blk_cell BK116.out 1).trans rfl
              have hcz27_2 : wr.cell? ⟨gb116, 2, none⟩ = some (.bool false) := (blk_cell BK116.out 2).trans rfl
              have hcz27_3 : wr.cell? ⟨gb116, 3, none⟩ = some (.int .i64 a1_3) := (blk_cell BK116.out 3).trans rfl
              have hcz27_4 : wr.cell? ⟨gb116, 4, none⟩ = some (.int .i64 a1_4) := (blk_cell BK116.out 4).trans rfl
              have hcz27_5 : wr.cell? ⟨gb116, 5, none⟩ = some (.slice A1_5 l1_5.length c1_5) := (blk_cell BK116.out 5).trans rfl
              have hfz27_0 := blk_frozen BK116.out 0
              have hfz27_1 := blk_frozen BK116.out 1
              have hfz27_2 := blk_frozen BK116.out 2
              have hfz27_3 := blk_frozen BK116.out 3
              have hfz27_4 := blk_frozen BK116.out 4
              have hfz27_5 := blk_frozen BK116.out 5
              have hcz28_0 : wr.cell? ⟨gb115, 0, none⟩ = some (.int .i64 a0_0) := (blk_cell BK115.out 0).trans rfl
              have hcz28_1 : wr.cell? ⟨gb115, 1, none⟩ = some (.int .i64 a0_1) := (blk_cell BK115.out 1).trans rfl
              have hcz28_2 : wr.cell? ⟨gb115, 2, none⟩ = some (.slice A0_2 l0_2.length c0_2) := (blk_cell BK115.out 2).trans rfl
              have hfz28_0 := blk_frozen BK115.out 0
              have hfz28_1 := blk_frozen BK115.out 1
              have hfz28_2 := blk_frozen BK115.out 2
              go_wp2
              go_ret
              exact ⟨by first | rfl | (simp [errW_none, errW_some] <;> rfl) | (simp [*, errW_none, errW_some] <;> rfl), by repeat (first | (with_reducible first | exact HB.out | apply below_alloc | apply pw_below_drewN | apply below_drew1 | refine below_set ?_ GE115.out | refine below_set ?_ GE116.out) | exact HB.out)⟩
          · rw [if_neg c17] at H
            have c17b0 : decide (a0_0 ≤ a1_1) = false := decide_eq_false c17
            clear c17
            obtain rfl := Option.some.inj H
            have hnb29 := NB116_115.out
            have hnc29 := NB115_116.out
            have hcz30_0 : wr.cell? ⟨gb116, 0, none⟩ = some (.int .i64 a1_0) := (blk_cell BK116.out 0).trans rfl
            have hcz30_1 : wr.cell? ⟨gb116, 1, none⟩ = some (.int .i64 a1_1) := (blk_cell BK116.out 1).trans rfl
            have hcz30_2 : wr.cell? ⟨gb116, 2, none⟩ = some (.bool a1_2) := (blk_cell BK116.out 2).trans rfl
            have hcz30_3 : wr.cell? ⟨gb116, 3, none⟩ = some (.int .i64 a1_3) := (blk_cell BK116.out 3).trans rfl
            have hcz30_4 : wr.cell? ⟨gb116, 4, none⟩ = some (.int .i64 a1_4) := (blk_cell BK116.out 4).trans rfl
            have hcz30_5 : wr.cell? ⟨gb116, 5, none⟩ = some (.slice A1_5 l1_5.length c1_5) := (blk_cell BK116.out 5).trans rfl
            have hfz30_0 := blk_frozen BK116.out 0
            have hfz30_1 := blk_frozen BK116.out 1
            have hfz30_2 := blk_frozen BK116.out 2
            have hfz30_3 := blk_frozen BK116.out 3
            have hfz30_4 := blk_frozen BK116.out 4
            have hfz30_5 := blk_frozen BK116.out 5
            have hcz31_0 : wr.cell? ⟨gb115, 0, none⟩ = some (.int .i64 a0_0) := (blk_cell BK115.out 0).trans rfl
            have hcz31_1 : wr.cell? ⟨gb115, 1, none⟩ = some (.int .i64 a0_1) := (blk_cell BK115.out 1).trans rfl
            have hcz31_2 : wr.cell? ⟨gb115, 2, none⟩ = some (.slice A0_2 l0_2.length c0_2) := (blk_cell BK115.out 2).trans rfl
            have hfz31_0 := blk_frozen BK115.out 0
            have hfz31_1 := blk_frozen BK115.out 1
            have hfz31_2 := blk_frozen BK115.out 2
            go_wp2
            go_ret
            exact ⟨by first | rfl | (simp [errW_none, errW_some] <;> rfl) | (simp [*, errW_none, errW_some] <;> rfl), by repeat (first | (with_reducible first | exact HB.out | apply below_alloc | apply pw_below_drewN | apply below_drew1 | refine below_set ?_ GE115.out | refine below_set ?_ GE116.out) | exact HB.out)⟩
        · rw [if_neg c16] at H
          have c16b0 : decide (a1_0 < a0_0) = false := decide_eq_false c16
          clear c16
          obtain rfl := Option.some.inj H
          have hnb32 := NB116_115.out
          have hnc32 := NB115_116.out
          have hcz33_0 : wr.cell? ⟨gb116, 0, none⟩ = some (.int .i64 a1_0) := (blk_cell BK116.out 0).trans rfl
          have hcz33_1 : wr.cell? ⟨gb116, 1, none⟩ = some (.int .i64 a1_1) := (blk_cell BK116.out 1).trans rfl
          have hcz33_2 : wr.cell? ⟨gb116, 2, none⟩ = some (.bool a1_2) := (blk_cell BK116.out 2).trans rfl
          have hcz33_3 : wr.cell? ⟨gb116, 3, none⟩ = some (.int .i64 a1_3) := (blk_cell BK116.out 3).trans rfl
          have hcz33_4 : wr.cell? ⟨gb116, 4, none⟩ = some (.int .i64 a1_4) := (blk_cell BK116.out 4).trans rfl
          have hcz33_5 : wr.cell? ⟨gb116, 5, none⟩ = some (.slice A1_5 l1_5.length c1_5) := (blk_cell BK116.out 5).trans rfl
          have hfz33_0 := blk_frozen BK116.out 0
          have hfz33_1 := blk_frozen BK116.out 1
          have hfz33_2 := blk_frozen BK116.out 2
          have hfz33_3 := blk_frozen BK116.out 3
          have hfz33_4 := blk_frozen BK116.out 4
          have hfz33_5 := blk_frozen BK116.out 5
          have hcz34_0 : wr.cell? ⟨gb115, 0, none⟩ = some (.int .i64 a0_0) := (blk_cell BK115.out 0).trans rfl
          have hcz34_1 : wr.cell? ⟨gb115, 1, none⟩ = some (.int .i64 a0_1) := (blk_cell BK115.out 1).trans rfl
          have hcz34_2 : wr.cell? ⟨gb115, 2, none⟩ = some (.slice A0_2 l0_2.length c0_2) := (blk_cell BK115.out 2).trans rfl
          have hfz34_0 := blk_frozen BK115.out 0
          have hfz34_1 := blk_frozen BK115.out 1
          have hfz34_2 := blk_frozen BK115.out 2
          go_wp2
          go_ret
          exact ⟨by first | rfl | (simp [errW_none, errW_some] <;> rfl) | (simp [*, errW_none, errW_some] <;> rfl), by repeat (first | (with_reducible first | exact HB.out | apply below_alloc | apply pw_below_drewN | apply below_drew1 | refine below_set ?_ GE115.out | refine below_set ?_ GE116.out) | exact HB.out)⟩

end Go.Proofs.Ytdokabaeddaipaa.A
end
section
namespace Go.Proofs.Ytdokabaeddaipaa.A
open Go.RowKit Go.Proofs.YtdokabaeddaipaaW.PrintWords Go.Proofs.YtdokabaeddaipaaW.PrintLast Go.Proofs.YtdokabaeddaipaaW.PrintMore Go.Proofs.Ytdokabaeddaipaa.Hand
attribute [local go_sem] max2_int min2_int max_two min_two max_three min_three max_four min_four   -- for this text's walks alone
set_option linter.unusedVariables false
set_option linter.unusedSimpArgs false

end Go.Proofs.Ytdokabaeddaipaa.A
end
