/- slices.Grow at a nil slice of ints. No condition beyond those in the statements. -/
import Derived.Test.YtdmdhpnlalekfaaProg
import Derived.Test.YtdmdhpnlalekfaaWMore
import Derived.Test.YtdmdhpnlalekfaaWZeros
import Derived.Shelf.RegionOpenPlain
import Derived.WalkKit
import Derived.KernelRfl
import Derived.Deep.LoopGhost
namespace Go.Proofs.Ytdmdhpnlalekfaa.Hand
open Go.RowKit Go.Shelf Go.Proofs.YtdmdhpnlalekfaaW.PrintWords Go.Proofs.YtdmdhpnlalekfaaW.PrintLast Go.Proofs.YtdmdhpnlalekfaaW.PrintMore
set_option linter.unusedVariables false
set_option linter.unusedSimpArgs false
section
variable {α : Type} {d : Kd α} {e : Nat} {w W : World} {base : Nat} {ok : Nat → Prop} {v : Value} {xs : List α}
theorem VR1 {base' : Nat} {A B R : Nat → Prop} (h : Kd.R d e W base (fun k => B k ∧ R k) v xs) : Kd.V d e W base' (fun k => (A k ∨ B k) ∧ R k) v xs := Kd.V_mono (Kd.R_V h) (fun _ hk => ⟨.inr hk.1, hk.2⟩)
theorem VR0 {base' : Nat} {A B : Nat → Prop} (h : Kd.R d e W base (fun k => B k) v xs) : Kd.V d e W base' (fun k => A k ∨ B k) v xs := Kd.V_mono (Kd.R_V h) (fun _ hk => .inr hk)
end
def grow_nil.f (a1 : Int) : Option (List Int) := if 0 ≤ a1 ∧ a1 * 8 ≤ 140737488355328 then some [] else none
theorem info_gint : (Try.prog.info? 3).map (fun i => (i.zero, i.size, i.bytes)) = some (some (.int .i64 0), 1, 8) := by kernel_rfl
set_option maxRecDepth 100000 in
set_option maxHeartbeats 4000000 in
theorem grow_nil.calls (a1 : Int) (r : List Int) (w : World) (h : grow_nil.f a1 = some r) :
    Calls Try.prog 51 #[.slice none 0 0, .int .i64 a1] w fun e w' => ∃ v0_ : Value, e = .returned v0_ ∧ Kd.R (Kd.int .i64) 3 w' w.heap.size (fun _ => True) v0_ r ∧ Below w.heap.size w w' := by
  unfold grow_nil.f at h
  split at h
  case isFalse => cases h
  rename_i hn
  cases h
  obtain ⟨h0, h1⟩ := hn
  go_enter Try.func51, Try.ntmps51
  have hw : wrap64 (a1 - wrap64 (0 - 0)) = a1 := by unfold wrap64; omega
  have t0 : decide (a1 < 0) = false := decide_eq_false (by omega)
  by_cases hp : a1 > 0
  · have t1 : decide (a1 > 0) = true := decide_eq_true hp
    go_wp2_with ((with_reducible refine gate_builtin (b := .append) (xs := #[.tmp 20, .tmp 21]) rfl ?_); at_builtin; refine Kd.R_append_zeros (Kd.int .i64) (w0 := w) w.heap.size rfl (.tmp 20) (.tmp 21) 23 3 3 (.int .i64 0) 8 rfl Try.underlying23 Try.underlying3 info_gint rfl (by decide) (by omega) (.slice none 0 0) [] 0 a1 (fun _ => True) rfl rfl rfl (fun _ _ => trivial) (Kd.R_nil _ _ _ _ _) h0 (Below.refl _ _) (Nat.le_refl _) (by simp; omega) ?_; intro v1 w1 ho hb hg hat; obtain ⟨A1, c1, rfl⟩ := Kd.R_slice ho; have ho' := Aside0.mk ho; clear ho)
    go_ret
    exact ⟨_, rfl, by have h := Kd.R_take (m := 0) ho'.out (Nat.zero_le _); simp only [List.take_zero] at h; exact h, hb⟩
  · have t1 : decide (a1 > 0) = false := decide_eq_false hp
    go_wp2
    go_ret
    exact ⟨_, rfl, Kd.R_nil _ _ _ _ _, Below.refl _ _⟩
end Go.Proofs.Ytdmdhpnlalekfaa.Hand
