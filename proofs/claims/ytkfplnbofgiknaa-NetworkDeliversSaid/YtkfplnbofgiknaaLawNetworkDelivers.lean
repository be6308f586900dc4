/- Printed by a program of this session: functions of the law's Go code as Lean functions, and that the Go code computes them. No condition beyond those in the statements. -/
import Derived.Test.YtkfplnbofgiknaaRows
import Derived.Test.YtkfplnbofgiknaaPx12
import Derived.Test.YtkfplnbofgiknaaOpens
import Derived.Test.YtkfplnbofgiknaaPureNetworkDelivers
import Derived.WalkKit
import Derived.ProofKit
import Derived.OpenShut
import Derived.ShutString
import Derived.ChangeOld
import Derived.Below
import Derived.SizedLaws
namespace Go.Proofs.Ytkfplnbofgiknaa.networkDelivers
open Go.ChangeShapes Go.WideShapes Go.ChangeAt Go.RowKit Go.Proofs.Ytkfplnbofgiknaa.P Go.Proofs.Ytkfplnbofgiknaa.Opens Go.Proofs.YtkfplnbofgiknaaW.PrintWords Go.Proofs.Ytkfplnbofgiknaa.Hand Go.Proofs.Ytkfplnbofgiknaa.A
open Go.ChangeMaps (open_string shut_string)
set_option linter.unusedVariables false
theorem own : ownKnob Try.prog.godebug = none := by kernel_rfl
theorem laidOut : laidOutB Try.prog = true := by kernel_rfl
theorem opens_27 : Opens Try.prog 27 k27 lookoutlaw50_NetworkDelivers.WT27 := by
  have h := opens_iso (f := fun x : S27 => (x.f0, x.f1, x.f2)) (g := fun y => (⟨y.1, y.2.1, y.2.2⟩ : S27)) (fun _ => rfl) (opens_struct (t := 27) Try.underlying27 (by kernel_rfl) (opensFs_cons rfl (by kernel_rfl) (opens_int Try.underlying3) (opensFs_cons rfl (by kernel_rfl) (opens_int Try.underlying3) (opensFs_one rfl (by kernel_rfl) (opens_string Try.underlying9)))))
  exact h
set_option maxRecDepth 100000 in
theorem lifted (os : Os) (started : os.Started) (H : Type) (enc : TypeId × Value → H) :
    ReturnsInHanded {} Try.checked os 8 .any (Rows.networkDeliversSpec.pre6 enc Try.prog Try.f8 Rows.networkDeliversRow.domain false) (Rows.networkDeliversSpec.post enc Try.prog Try.f8 false true false false) := by
  refine returnsInHanded_of_change_sized (C := Try.checked) own started (by kernel_rfl) Try.func8
    (ChangeSpec.witness6 (enc := enc) (C := Try.checked) false ⟨#[], #[.int .i64 0, .int .i64 0, .agg #[.int .i64 0, .int .i64 0, .string ByteArray.empty]], []⟩ 8 (by kernel_rfl) (by kernel_rfl) (by kernel_rfl) (by kernel_rfl)) ?_
  intro W base args ds gs before hval0 hW hcnd hsz0 _
  have hsz : (DataW.weightsEach Try.prog (Try.f8.params.toList ++ Rows.networkDeliversSpec.plain.varTypes Try.prog) (ds ++ gs)).all (· ≤ reachBytes) = true := hsz0
  have hval : ∀ (j : Nat) t v, Try.f8.params[j]? = some t → args[j]? = some v → Value.okWide Try.prog W .any base t v := hval0
  have hW' := hW
  obtain ⟨p, q, hA0, hV, rfl, hfz, hnd⟩ := hW
  have hA : DataW.TrodAll enc Try.prog W 0 (fun _ => true) true Try.f8.params.toList args.toList ds p := hA0
  rw [Try.params8] at hA hval hsz
  obtain ⟨v0, vs0, d0, ds0, p0, q0, hargs, rfl, rfl, h0, r0⟩ := trodAll_cons hA
  obtain ⟨v1, vs1, d1, ds1, p1, q1, rfl, rfl, rfl, h1, r1⟩ := trodAll_cons r0
  obtain ⟨v2, vs2, d2, ds2, p2, q2, rfl, rfl, rfl, h2, r2⟩ := trodAll_cons r1
  obtain ⟨rfl, rfl, rfl⟩ := trodAll_nil r2
  obtain rfl : args = #[v0, v1, v2] := by cases args; simp_all
  obtain ⟨rfl, rfl⟩ := trodVars_none hV
  obtain ⟨a0, rfl, rfl, rfl, w0⟩ := open_int Try.underlying3 (hval 0 3 v0 rfl rfl) h0
  obtain ⟨a1, rfl, rfl, rfl, w1⟩ := open_int Try.underlying3 (hval 1 3 v1 rfl rfl) h1
  have k2 := h2
  have lt2 : ∀ x ∈ p2, x.block < W.heap.size := by obtain ⟨m, hm⟩ := k2; exact DataW.trod_lt m _ _ _ hm
  obtain ⟨cs2, rfl, _⟩ := okWide_struct Try.underlying27 (hval 2 27 v2 rfl rfl)
  obtain ⟨x2, hK2, hw2⟩ := opened opens_27 h2 hsz (j := 2) (t := 27) rfl rfl
  obtain ⟨_, _, e2, rfl, ⟨_, _, rfl, rfl, rfl⟩⟩ := hK2
  obtain rfl := arr_of (l := [.int .i64 x2.f0, .int .i64 x2.f1, .string x2.f2]) e2
  clear hA0 hval0 hsz0 hsz
  obtain ⟨k, hk⟩ := Pure.NetworkDelivers a0 a1 x2.f0 x2.f1 x2.f2 w0 w1 hw2.1 hw2.2.1 hw2.2.2
  refine (lookoutlaw50_NetworkDelivers.calls (w := W) (r := true)  (h := hk)).mono fun e W' ⟨he, bel0⟩ => ?_
  have bel : Below W.heap.size W W' := bel0
  subst he
  exact ⟨_, rfl, _, _, _, [], _, [], hW', trodAll_mk1 (shut_bool Try.underlying4 _), (trodAll_cons_mk (shut_int Try.underlying3 w0) (trodAll_cons_mk (shut_int Try.underlying3 w1) (trodAll_cons_mk (Below.trod laidOut (by kernel_rfl) (of_decide_eq_true (by kernel_rfl)) k2 bel lt2) trodAll_mk0))), rfl, bel.frame _, fun h => by cases h⟩
theorem over : Rows.networkDeliversRow.holds Try.pinned (OpenSpec.ofChange Rows.networkDeliversSpec) :=
  OpenClaim.holds_of_wide 8 Try.f8 rfl rfl rfl rfl rfl rfl rfl ⟨rfl, rfl, rfl, rfl, rfl⟩ rfl rfl rfl rfl rfl (by kernel_rfl) Try.func8 (by kernel_rfl)
    (of_decide_eq_true (by kernel_rfl)) (by unfold Func.isWrapper; first | (rw [if_pos (by decide +kernel)]; kernel_rfl) | (rw [if_neg (by decide +kernel)]; exact ⟨rfl, rfl⟩))
    (fun os started H enc _ => lifted os started H enc)
theorem proved : Rows.NetworkDeliversSaid := over
#print axioms proved
end Go.Proofs.Ytkfplnbofgiknaa.networkDelivers
namespace Go.Proofs.Ytkfplnbofgiknaa
/-- The row, under a short name, for the claim. -/
theorem networkDelivers_holds : Rows.NetworkDeliversSaid := networkDelivers.proved
end Go.Proofs.Ytkfplnbofgiknaa
