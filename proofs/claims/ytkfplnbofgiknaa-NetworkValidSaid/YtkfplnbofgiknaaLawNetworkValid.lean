/- Printed by a program of this session: functions of the law's Go code as Lean functions, and that the Go code computes them. No condition beyond those in the statements. -/
import Derived.Test.YtkfplnbofgiknaaRows
import Derived.Test.YtkfplnbofgiknaaPx15
import Derived.Test.YtkfplnbofgiknaaOpens
import Derived.Test.YtkfplnbofgiknaaPureNetworkValid
import Derived.WalkKit
import Derived.ProofKit
import Derived.OpenShut
import Derived.ShutString
import Derived.ChangeOld
import Derived.Below
import Derived.SizedLaws
namespace Go.Proofs.Ytkfplnbofgiknaa.networkValid
open Go.ChangeShapes Go.WideShapes Go.ChangeAt Go.RowKit Go.Proofs.Ytkfplnbofgiknaa.P Go.Proofs.Ytkfplnbofgiknaa.Opens Go.Proofs.YtkfplnbofgiknaaW.PrintWords Go.Proofs.Ytkfplnbofgiknaa.Hand Go.Proofs.Ytkfplnbofgiknaa.A
open Go.ChangeMaps (open_string shut_string)
set_option linter.unusedVariables false
theorem own : ownKnob Try.prog.godebug = none := by kernel_rfl
theorem laidOut : laidOutB Try.prog = true := by kernel_rfl
theorem opens_27 : Opens Try.prog 27 k27 lookoutlaw50_NetworkValid.WT27 := by
  have h := opens_iso (f := fun x : S27 => (x.f0, x.f1, x.f2)) (g := fun y => (⟨y.1, y.2.1, y.2.2⟩ : S27)) (fun _ => rfl) (opens_struct (t := 27) Try.underlying27 (by kernel_rfl) (opensFs_cons rfl (by kernel_rfl) (opens_int Try.underlying3) (opensFs_cons rfl (by kernel_rfl) (opens_int Try.underlying3) (opensFs_one rfl (by kernel_rfl) (opens_string Try.underlying9)))))
  exact h
theorem opens_44 : Opens Try.prog 44 k44 lookoutlaw50_NetworkValid.WT44 := by
  have h := opens_iso (f := fun x : S44 => (x.f0, x.f1)) (g := fun y => (⟨y.1, y.2⟩ : S44)) (fun _ => rfl) (opens_struct (t := 44) Try.underlying44 (by kernel_rfl) (opensFs_cons rfl (by kernel_rfl) (opens_int Try.underlying3) (opensFs_one rfl (by kernel_rfl) opens_27)))
  exact h
theorem opens_25 : Opens Try.prog 25 k25 lookoutlaw50_NetworkValid.WT25 := by
  have h := opens_iso (f := fun x : S25 => (x.f0, x.f1, x.f2)) (g := fun y => (⟨y.1, y.2.1, y.2.2⟩ : S25)) (fun _ => rfl) (opens_struct (t := 25) Try.underlying25 (by kernel_rfl) (opensFs_cons rfl (by kernel_rfl) (opens_int Try.underlying3) (opensFs_cons rfl (by kernel_rfl) (opens_slice Try.underlying22 (opens_int Try.underlying3) (by kernel_rfl) (show Try.prog.bytesOf 3 = 8 by kernel_rfl)) (opensFs_one rfl (by kernel_rfl) (opens_slice Try.underlying23 opens_44 (by kernel_rfl) (show Try.prog.bytesOf 44 = 40 by kernel_rfl))))))
  exact h
set_option maxRecDepth 100000 in
theorem lifted (os : Os) (started : os.Started) (H : Type) (enc : TypeId × Value → H) :
    ReturnsInHanded {} Try.checked os 9 .any (Rows.networkValidSpec.pre6 enc Try.prog Try.f9 Rows.networkValidRow.domain false) (Rows.networkValidSpec.post enc Try.prog Try.f9 false true false false) := by
  refine returnsInHanded_of_change_sized (C := Try.checked) own started (by kernel_rfl) Try.func9
    (ChangeSpec.witness6 (enc := enc) (C := Try.checked) false ⟨#[], #[.agg #[.int .i64 0, .slice none 0 0, .slice none 0 0], .agg #[.int .i64 0, .int .i64 0, .string ByteArray.empty]], []⟩ 8 (by kernel_rfl) (by kernel_rfl) (by kernel_rfl) (by kernel_rfl)) ?_
  intro W base args ds gs before hval0 hW hcnd hsz0 _
  have hsz : (DataW.weightsEach Try.prog (Try.f9.params.toList ++ Rows.networkValidSpec.plain.varTypes Try.prog) (ds ++ gs)).all (· ≤ reachBytes) = true := hsz0
  have hval : ∀ (j : Nat) t v, Try.f9.params[j]? = some t → args[j]? = some v → Value.okWide Try.prog W .any base t v := hval0
  have hW' := hW
  obtain ⟨p, q, hA0, hV, rfl, hfz, hnd⟩ := hW
  have hA : DataW.TrodAll enc Try.prog W 0 (fun _ => true) true Try.f9.params.toList args.toList ds p := hA0
  rw [Try.params9] at hA hval hsz
  obtain ⟨v0, vs0, d0, ds0, p0, q0, hargs, rfl, rfl, h0, r0⟩ := trodAll_cons hA
  obtain ⟨v1, vs1, d1, ds1, p1, q1, rfl, rfl, rfl, h1, r1⟩ := trodAll_cons r0
  obtain ⟨rfl, rfl, rfl⟩ := trodAll_nil r1
  obtain rfl : args = #[v0, v1] := by cases args; simp_all
  obtain ⟨rfl, rfl⟩ := trodVars_none hV
  have k0 := h0
  have lt0 : ∀ x ∈ p0, x.block < W.heap.size := by obtain ⟨m, hm⟩ := k0; exact DataW.trod_lt m _ _ _ hm
  obtain ⟨cs0, rfl, _⟩ := okWide_struct Try.underlying25 (hval 0 25 v0 rfl rfl)
  obtain ⟨x0, hK0, hw0⟩ := opened opens_25 h0 hsz (j := 0) (t := 25) rfl rfl
  obtain ⟨_, _, e0, rfl, ⟨_, _, rfl, ⟨A0_1, c0_1, rfl, hc0_1, hr0_1⟩, ⟨A0_2, c0_2, rfl, hc0_2, hr0_2⟩⟩⟩ := hK0
  obtain rfl := arr_of (l := [.int .i64 x0.f0, .slice A0_1 x0.f1.length c0_1, .slice A0_2 x0.f2.length c0_2]) e0
  have k1 := h1
  have lt1 : ∀ x ∈ p1, x.block < W.heap.size := by obtain ⟨m, hm⟩ := k1; exact DataW.trod_lt m _ _ _ hm
  obtain ⟨cs1, rfl, _⟩ := okWide_struct Try.underlying27 (hval 1 27 v1 rfl rfl)
  obtain ⟨x1, hK1, hw1⟩ := opened opens_27 h1 hsz (j := 1) (t := 27) rfl rfl
  obtain ⟨_, _, e1, rfl, ⟨_, _, rfl, rfl, rfl⟩⟩ := hK1
  obtain rfl := arr_of (l := [.int .i64 x1.f0, .int .i64 x1.f1, .string x1.f2]) e1
  clear hA0 hval0 hsz0 hsz
  obtain ⟨k, hk⟩ := Pure.NetworkValid x0.f0 x0.f1 x0.f2 x1.f0 x1.f1 x1.f2 hw0.1 hw0.2.1.1 hw0.2.1.2.1 hw0.2.1.2.2 hw0.2.2.1 hw0.2.2.2.1 hw0.2.2.2.2 hw1.1 hw1.2.1 hw1.2.2
  refine (lookoutlaw50_NetworkValid.calls (w := W) (r := true) (hr0_1 := hr0_1) (hc0_1 := hc0_1) (hr0_2 := hr0_2) (hc0_2 := hc0_2) (h := hk)).mono fun e W' ⟨he, bel0⟩ => ?_
  have bel : Below W.heap.size W W' := bel0
  subst he
  exact ⟨_, rfl, _, _, _, [], _, [], hW', trodAll_mk1 (shut_bool Try.underlying4 _), (trodAll_cons_mk (Below.trod laidOut (by kernel_rfl) (of_decide_eq_true (by kernel_rfl)) k0 bel lt0) (trodAll_cons_mk (Below.trod laidOut (by kernel_rfl) (of_decide_eq_true (by kernel_rfl)) k1 bel lt1) trodAll_mk0)), rfl, bel.frame _, fun h => by cases h⟩
theorem over : Rows.networkValidRow.holds Try.pinned (OpenSpec.ofChange Rows.networkValidSpec) :=
  OpenClaim.holds_of_wide 9 Try.f9 rfl rfl rfl rfl rfl rfl rfl ⟨rfl, rfl, rfl, rfl, rfl⟩ rfl rfl rfl rfl rfl (by kernel_rfl) Try.func9 (by kernel_rfl)
    (of_decide_eq_true (by kernel_rfl)) (by unfold Func.isWrapper; first | (rw [if_pos (by decide +kernel)]; kernel_rfl) | (rw [if_neg (by decide +kernel)]; exact ⟨rfl, rfl⟩))
    (fun os started H enc _ => lifted os started H enc)
theorem proved : Rows.NetworkValidSaid := over
#print axioms proved
end Go.Proofs.Ytkfplnbofgiknaa.networkValid
namespace Go.Proofs.Ytkfplnbofgiknaa
/-- The row, under a short name, for the claim. -/
theorem networkValid_holds : Rows.NetworkValidSaid := networkValid.proved
end Go.Proofs.Ytkfplnbofgiknaa
