/- Printed by a program of this session: functions of the law's Go code as Lean functions, and that the Go code computes them. No condition beyond those in the statements. -/
import Derived.Test.YtdmdhpnlalekfaaRows
import Derived.Test.YtdmdhpnlalekfaaMx28
import Derived.Test.YtdmdhpnlalekfaaOpens
import Derived.Test.YtdmdhpnlalekfaaPurePostingsMembers
import Derived.WalkKit
import Derived.ProofKit
import Derived.OpenShut
import Derived.ShutString
import Derived.ChangeOld
import Derived.Below
import Derived.SizedLaws
namespace Go.Proofs.Ytdmdhpnlalekfaa.postingsMembers
open Go.ChangeShapes Go.WideShapes Go.ChangeAt Go.RowKit Go.Proofs.Ytdmdhpnlalekfaa.M Go.Proofs.Ytdmdhpnlalekfaa.Opens Go.Proofs.YtdmdhpnlalekfaaW.PrintWords Go.Proofs.Ytdmdhpnlalekfaa.Hand Go.Proofs.Ytdmdhpnlalekfaa.A
open Go.ChangeMaps (open_string shut_string)
set_option linter.unusedVariables false
theorem own : ownKnob Try.prog.godebug = none := by kernel_rfl
theorem laidOut : laidOutB Try.prog = true := by kernel_rfl
set_option maxRecDepth 100000 in
theorem lifted (os : Os) (started : os.Started) (H : Type) (enc : TypeId × Value → H) :
    ReturnsInHanded {} Try.checked os 9 .any (Rows.postingsMembersSpec.pre6 enc Try.prog Try.f9 Rows.postingsMembersRow.domain false) (Rows.postingsMembersSpec.post enc Try.prog Try.f9 false true false false) := by
  refine returnsInHanded_of_change_sized (C := Try.checked) own started (by kernel_rfl) Try.func9
    (ChangeSpec.witness6 (enc := enc) (C := Try.checked) false ⟨#[], #[.slice none 0 0, .slice none 0 0, .int .i64 0], []⟩ 8 (by kernel_rfl) (by kernel_rfl) (by kernel_rfl) (by kernel_rfl)) ?_
  intro W base args ds gs before hval0 hW hcnd hsz0 _
  have hsz : (DataW.weightsEach Try.prog (Try.f9.params.toList ++ Rows.postingsMembersSpec.plain.varTypes Try.prog) (ds ++ gs)).all (· ≤ reachBytes) = true := hsz0
  have hval : ∀ (j : Nat) t v, Try.f9.params[j]? = some t → args[j]? = some v → Value.okWide Try.prog W .any base t v := hval0
  have hW' := hW
  obtain ⟨p, q, hA0, hV, rfl, hfz, hnd⟩ := hW
  have hA : DataW.TrodAll enc Try.prog W 0 (fun _ => true) true Try.f9.params.toList args.toList ds p := hA0
  rw [Try.params9] at hA hval hsz
  obtain ⟨v0, vs0, d0, ds0, p0, q0, hargs, rfl, rfl, h0, r0⟩ := trodAll_cons hA
  obtain ⟨v1, vs1, d1, ds1, p1, q1, rfl, rfl, rfl, h1, r1⟩ := trodAll_cons r0
  obtain ⟨v2, vs2, d2, ds2, p2, q2, rfl, rfl, rfl, h2, r2⟩ := trodAll_cons r1
  obtain ⟨rfl, rfl, rfl⟩ := trodAll_nil r2
  obtain rfl : args = #[v0, v1, v2] := by cases args; simp_all
  obtain ⟨rfl, rfl⟩ := trodVars_none hV
  have k0 := h0
  have lt0 : ∀ x ∈ p0, x.block < W.heap.size := by obtain ⟨m, hm⟩ := k0; exact DataW.trod_lt m _ _ _ hm
  obtain ⟨A0, len0, c0, rfl⟩ := okWide_slice Try.underlying23 (hval 0 23 v0 rfl rfl)
  obtain ⟨l0, hK0, hw0⟩ := opened (opens_slice Try.underlying23 (opens_int Try.underlying3) (by kernel_rfl) (show Try.prog.bytesOf 3 = 8 by kernel_rfl)) h0 hsz (j := 0) (t := 23) rfl rfl
  obtain ⟨rfl, hc0, hr0⟩ := slice_at hK0
  have k1 := h1
  have lt1 : ∀ x ∈ p1, x.block < W.heap.size := by obtain ⟨m, hm⟩ := k1; exact DataW.trod_lt m _ _ _ hm
  obtain ⟨A1, len1, c1, rfl⟩ := okWide_slice Try.underlying23 (hval 1 23 v1 rfl rfl)
  obtain ⟨l1, hK1, hw1⟩ := opened (opens_slice Try.underlying23 (opens_int Try.underlying3) (by kernel_rfl) (show Try.prog.bytesOf 3 = 8 by kernel_rfl)) h1 hsz (j := 1) (t := 23) rfl rfl
  obtain ⟨rfl, hc1, hr1⟩ := slice_at hK1
  obtain ⟨a2, rfl, rfl, rfl, w2⟩ := open_int Try.underlying3 (hval 2 3 v2 rfl rfl) h2
  clear hA0 hval0 hsz0 hsz
  obtain ⟨k, hk⟩ := Pure.PostingsMembers l0 l1 a2 hw0.1 hw0.2.1 hw0.2.2 hw1.1 hw1.2.1 hw1.2.2 w2
  refine (lookoutlaw08_PostingsMembers.calls (w := W) (r := true) (hs0 := Kd.V_mk hc0 (Kd.C_F (Kd.heap_int .i64) hr0)) (hs1 := Kd.V_mk hc1 (Kd.C_F (Kd.heap_int .i64) hr1)) (h := hk)).mono fun e W' ⟨he, bel0⟩ => ?_
  have bel : Below W.heap.size W W' := bel0
  subst he
  exact ⟨_, rfl, _, _, _, [], _, [], hW', trodAll_mk1 (shut_bool Try.underlying4 _), (trodAll_cons_mk (Below.trod laidOut (by kernel_rfl) (of_decide_eq_true (by kernel_rfl)) k0 bel lt0) (trodAll_cons_mk (Below.trod laidOut (by kernel_rfl) (of_decide_eq_true (by kernel_rfl)) k1 bel lt1) (trodAll_cons_mk (shut_int Try.underlying3 w2) trodAll_mk0))), rfl, bel.frame _, fun h => by cases h⟩
theorem over : Rows.postingsMembersRow.holds Try.pinned (OpenSpec.ofChange Rows.postingsMembersSpec) :=
  OpenClaim.holds_of_wide 9 Try.f9 rfl rfl rfl rfl rfl rfl rfl ⟨rfl, rfl, rfl, rfl, rfl⟩ rfl rfl rfl rfl rfl (by kernel_rfl) Try.func9 (by kernel_rfl)
    (of_decide_eq_true (by kernel_rfl)) (by unfold Func.isWrapper; first | (rw [if_pos (by decide +kernel)]; kernel_rfl) | (rw [if_neg (by decide +kernel)]; exact ⟨rfl, rfl⟩))
    (fun os started H enc _ => lifted os started H enc)
theorem proved : Rows.PostingsMembersSaid := over
#print axioms proved
end Go.Proofs.Ytdmdhpnlalekfaa.postingsMembers
namespace Go.Proofs.Ytdmdhpnlalekfaa
/-- The row, under a short name, for the claim. -/
theorem postingsMembers_holds : Rows.PostingsMembersSaid := postingsMembers.proved
end Go.Proofs.Ytdmdhpnlalekfaa
