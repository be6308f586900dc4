/- The contract of slices.Clone at ints: the same flights in a row of the call's own. No further condition. -/
import Derived.Test.YtdmdhpnlalekfaaProg
import Derived.Test.YtdmdhpnlalekfaaWMore
import Derived.WalkKit
import Derived.WalkSpells
namespace Go.Proofs.Ytdmdhpnlalekfaa.Hand
open Go.RowKit Go.Proofs.YtdmdhpnlalekfaaW.PrintWords Go.Proofs.YtdmdhpnlalekfaaW.PrintMore
set_option linter.unusedVariables false
set_option linter.unusedSimpArgs false
theorem infoC : (Try.prog.info? 3).map (fun i => (i.zero, i.size, i.bytes)) = some (some (.int .i64 0), 1, 8) := by kernel_rfl
def clone_int.f (l0 : List Int) : Option (List Int) := if l0.length < 8796093022208 then some l0 else none
set_option maxRecDepth 100000 in
set_option maxHeartbeats 2000000 in
theorem clone_int.calls (A0 : Option Addr) (c0 : Nat) (l0 r : List Int) (w : World) (hr0 : Kd.C (Kd.int .i64) w A0 l0.length l0) (hc0 : l0.length ≤ c0) (h : clone_int.f l0 = some r) :
    Calls Try.prog 54 #[.slice A0 l0.length c0] w fun e w' => ∃ v0_ : Value, e = .returned v0_ ∧ Kd.R (Kd.int .i64) 3 w' w.heap.size (fun _ => True) v0_ r ∧ Below w.heap.size w w' := by
  unfold clone_int.f at h
  split at h
  case isFalse => cases h
  rename_i hlen
  cases h
  cases A0 with
  | none =>
    have hl : l0 = [] := by
      cases l0 with
      | nil => rfl
      | cons x l =>
        obtain ⟨_, _, h3⟩ := hr0
        obtain ⟨ad, h4, _⟩ := h3 (by simp)
        cases h4
    subst hl
    have hnil := fun w => Lib.run_eql_slice_nil (P := Try.prog) w 23 3 none 0 c0 0 0 Try.underlying23
    go_enter Try.func54, Try.ntmps54
    go_wp2
    go_ret
    exact ⟨_, rfl, Kd.R_nil _ _ _ _ _, Below.refl _ _⟩
  | some ad =>
    have hnil := fun w => Lib.run_eql_slice_nil (P := Try.prog) w 23 3 (some ad) l0.length c0 0 0 Try.underlying23
    simp only [Option.isNone_some] at hnil
    have HR := Aside0.mk hr0
    have HL := Aside0.mk hlen
    clear hr0 hlen
    go_enter Try.func54, Try.ntmps54
    go_wp2_with (first | ((with_reducible refine gate_dst (N := 5) rfl ?_); refine Kd.R_lit (Kd.int .i64) _ 3 ?hg (N := 5) ?hd (xs := ([] : List (Int))) (inner := []) (ok := fun _ => True) (okp := fun _ => True) ?hr ?hp (fun _ hk => hk) trivial (Below.refl _ _) (Nat.le_refl _) (by simp) ?_; (case hd => rfl); (case hg => rfl); (case hr => first | (go_simp; done) | (go_simp; rfl)); (case hp => exact (Reps.none _ _)); intro v1 w1 ho1 hb1 hg_ hnew_; clear hg_ hnew_; have HB := Aside0.mk hb1; have HO := Aside0.mk ho1; clear hb1 ho1) | ((with_reducible refine gate_builtin (b := .append) (xs := #[.tmp 5, .tmp 6]) rfl ?_); at_builtin; refine Kd.R_append_rows (Kd.int .i64) (w0 := w) w.heap.size rfl (.tmp 5) (.tmp 6) 23 3 (.int .i64 0) 8 rfl Try.underlying23 infoC rfl (by decide) (by omega) v1 [] l0 _ _ _ (fun k_ => True) (fun _ => False) rfl rfl ?aO ?aR (fun _ _ h => h) (fun _ h => h.elim) ?aF ?aB ?aS ?aL ?_; (case aR => exact Kd.C_below HR.out HB.out); (case aB => exact HB.out); (case aF => exact (fun _ _ => trivial)); (case aO => exact Kd.R_mono HO.out (fun _ _ => trivial)); (case aS => exact HB.out.size); (case aL => have := HL.out; simp; omega); intro v2 w2 ho hb hg hat; simp only [List.nil_append] at ho; have HO2 := Aside0.mk ho; have HB2 := Aside0.mk hb; clear ho hb hg hat))
    go_ret
    exact ⟨_, rfl, HO2.out, HB2.out⟩
end Go.Proofs.Ytdmdhpnlalekfaa.Hand
