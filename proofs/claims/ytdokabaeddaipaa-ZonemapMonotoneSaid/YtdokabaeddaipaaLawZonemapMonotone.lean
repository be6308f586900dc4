/- Printed by a program of this session: functions of the law's Go code as Lean functions, and that the Go code computes them. No condition beyond those in the statements. -/
import Derived.Test.YtdokabaeddaipaaRows
import Derived.Test.YtdokabaeddaipaaPx9
import Derived.Test.YtdokabaeddaipaaOpens
import Derived.Test.YtdokabaeddaipaaPureZonemapMonotone
import Derived.WalkKit
import Derived.ProofKit
import Derived.OpenShut
import Derived.ShutString
import Derived.ChangeOld
import Derived.Below
import Derived.SizedLaws
namespace Go.Proofs.Ytdokabaeddaipaa.zonemapMonotone
open Go.ChangeShapes Go.WideShapes Go.ChangeAt Go.RowKit Go.Proofs.Ytdokabaeddaipaa.P Go.Proofs.Ytdokabaeddaipaa.Opens Go.Proofs.YtdokabaeddaipaaW.PrintWords Go.Proofs.Ytdokabaeddaipaa.Hand Go.Proofs.Ytdokabaeddaipaa.A
open Go.ChangeMaps (open_string shut_string)
set_option linter.unusedVariables false
theorem own : ownKnob Try.prog.godebug = none := by kernel_rfl
theorem laidOut : laidOutB Try.prog = true := by kernel_rfl
theorem opens_23 : Opens Try.prog 23 k23 lookoutlaw16_ZonemapMonotone.WT23 := by
  have h := opens_iso (f := fun x : S23 => (x.f0, x.f1, x.f2, x.f3, x.f4, x.f5, x.f6, x.f7)) (g := fun y => (⟨y.1, y.2.1, y.2.2.1, y.2.2.2.1, y.2.2.2.2.1, y.2.2.2.2.2.1, y.2.2.2.2.2.2.1, y.2.2.2.2.2.2.2⟩ : S23)) (fun _ => rfl) (opens_array (t := 23) Try.underlying23 (show Try.prog.cellsOf 22 = 1 by kernel_rfl) (by kernel_rfl) (show OpensFs Try.prog (arFs 22 0 8) 0 _ _ from (opensFs_cons rfl (by kernel_rfl) (opens_int Try.underlying22) (opensFs_cons rfl (by kernel_rfl) (opens_int Try.underlying22) (opensFs_cons rfl (by kernel_rfl) (opens_int Try.underlying22) (opensFs_cons rfl (by kernel_rfl) (opens_int Try.underlying22) (opensFs_cons rfl (by kernel_rfl) (opens_int Try.underlying22) (opensFs_cons rfl (by kernel_rfl) (opens_int Try.underlying22) (opensFs_cons rfl (by kernel_rfl) (opens_int Try.underlying22) (opensFs_one rfl (by kernel_rfl) (opens_int Try.underlying22)))))))))))
  exact h
theorem opens_25 : Opens Try.prog 25 k25 lookoutlaw16_ZonemapMonotone.WT25 := by
  have h := opens_iso (f := fun x : S25 => (x.f0, x.f1, x.f2, x.f3, x.f4, x.f5)) (g := fun y => (⟨y.1, y.2.1, y.2.2.1, y.2.2.2.1, y.2.2.2.2.1, y.2.2.2.2.2⟩ : S25)) (fun _ => rfl) (opens_struct (t := 25) Try.underlying25 (by kernel_rfl) (opensFs_cons rfl (by kernel_rfl) (opens_int Try.underlying3) (opensFs_cons rfl (by kernel_rfl) (opens_int Try.underlying3) (opensFs_cons rfl (by kernel_rfl) (opens_int Try.underlying3) (opensFs_cons rfl (by kernel_rfl) (opens_int Try.underlying3) (opensFs_cons rfl (by kernel_rfl) (opens_int Try.underlying3) (opensFs_one rfl (by kernel_rfl) opens_23)))))))
  exact h
theorem opens_40 : Opens Try.prog 40 k40 lookoutlaw16_ZonemapMonotone.WT40 := by
  have h := opens_iso (f := fun x : S40 => (x.f0, x.f1, x.f2)) (g := fun y => (⟨y.1, y.2.1, y.2.2⟩ : S40)) (fun _ => rfl) (opens_struct (t := 40) Try.underlying40 (by kernel_rfl) (opensFs_cons rfl (by kernel_rfl) (opens_int Try.underlying3) (opensFs_cons rfl (by kernel_rfl) (opens_int Try.underlying3) (opensFs_one rfl (by kernel_rfl) (opens_slice Try.underlying26 (opens_string Try.underlying9) (by kernel_rfl) (show Try.prog.bytesOf 9 = 16 by kernel_rfl))))))
  exact h
theorem opens_35 : Opens Try.prog 35 k35 lookoutlaw16_ZonemapMonotone.WT35 := by
  have h := opens_iso (f := fun x : S35 => (x.f0, x.f1, x.f2, x.f3, x.f4, x.f5)) (g := fun y => (⟨y.1, y.2.1, y.2.2.1, y.2.2.2.1, y.2.2.2.2.1, y.2.2.2.2.2⟩ : S35)) (fun _ => rfl) (opens_struct (t := 35) Try.underlying35 (by kernel_rfl) (opensFs_cons rfl (by kernel_rfl) (opens_int Try.underlying3) (opensFs_cons rfl (by kernel_rfl) (opens_int Try.underlying3) (opensFs_cons rfl (by kernel_rfl) (opens_bool Try.underlying4) (opensFs_cons rfl (by kernel_rfl) (opens_int Try.underlying3) (opensFs_cons rfl (by kernel_rfl) (opens_int Try.underlying3) (opensFs_one rfl (by kernel_rfl) (opens_slice Try.underlying26 (opens_string Try.underlying9) (by kernel_rfl) (show Try.prog.bytesOf 9 = 16 by kernel_rfl)))))))))
  exact h
set_option maxRecDepth 100000 in
theorem lifted (os : Os) (started : os.Started) (H : Type) (enc : TypeId × Value → H) :
    ReturnsInHanded {} Try.checked os 5 .any (Rows.zonemapMonotoneSpec.pre6 enc Try.prog Try.f5 Rows.zonemapMonotoneRow.domain false) (Rows.zonemapMonotoneSpec.post enc Try.prog Try.f5 false true false false) := by
  refine returnsInHanded_of_change_sized (C := Try.checked) own started (by kernel_rfl) Try.func5
    (ChangeSpec.witness6 (enc := enc) (C := Try.checked) false ⟨#[], #[.agg #[.int .i64 0, .int .i64 0, .int .i64 0, .int .i64 0, .int .i64 0, .int .u32 0, .int .u32 0, .int .u32 0, .int .u32 0, .int .u32 0, .int .u32 0, .int .u32 0, .int .u32 0], .agg #[.int .i64 0, .int .i64 0, .int .i64 0, .int .i64 0, .int .i64 0, .int .u32 0, .int .u32 0, .int .u32 0, .int .u32 0, .int .u32 0, .int .u32 0, .int .u32 0, .int .u32 0], .agg #[.int .i64 0, .int .i64 0, .slice none 0 0], .agg #[.int .i64 0, .int .i64 0, .bool false, .int .i64 0, .int .i64 0, .slice none 0 0]], []⟩ 8 (by kernel_rfl) (by kernel_rfl) (by kernel_rfl) (by kernel_rfl)) ?_
  intro W base args ds gs before hval0 hW hcnd hsz0 _
  have hsz : (DataW.weightsEach Try.prog (Try.f5.params.toList ++ Rows.zonemapMonotoneSpec.plain.varTypes Try.prog) (ds ++ gs)).all (· ≤ reachBytes) = true := hsz0
  have hval : ∀ (j : Nat) t v, Try.f5.params[j]? = some t → args[j]? = some v → Value.okWide Try.prog W .any base t v := hval0
  have hW' := hW
  obtain ⟨p, q, hA0, hV, rfl, hfz, hnd⟩ := hW
  have hA : DataW.TrodAll enc Try.prog W 0 (fun _ => true) true Try.f5.params.toList args.toList ds p := hA0
  rw [Try.params5] at hA hval hsz
  obtain ⟨v0, vs0, d0, ds0, p0, q0, hargs, rfl, rfl, h0, r0⟩ := trodAll_cons hA
  obtain ⟨v1, vs1, d1, ds1, p1, q1, rfl, rfl, rfl, h1, r1⟩ := trodAll_cons r0
  obtain ⟨v2, vs2, d2, ds2, p2, q2, rfl, rfl, rfl, h2, r2⟩ := trodAll_cons r1
  obtain ⟨v3, vs3, d3, ds3, p3, q3, rfl, rfl, rfl, h3, r3⟩ := trodAll_cons r2
  obtain ⟨rfl, rfl, rfl⟩ := trodAll_nil r3
  obtain rfl : args = #[v0, v1, v2, v3] := by cases args; simp_all
  obtain ⟨rfl, rfl⟩ := trodVars_none hV
  have k0 := h0
  have lt0 : ∀ x ∈ p0, x.block < W.heap.size := by obtain ⟨m, hm⟩ := k0; exact DataW.trod_lt m _ _ _ hm
  obtain ⟨cs0, rfl, _⟩ := okWide_struct Try.underlying25 (hval 0 25 v0 rfl rfl)
  obtain ⟨x0, hK0, hw0⟩ := opened opens_25 h0 hsz (j := 0) (t := 25) rfl rfl
  obtain ⟨_, _, e0, rfl, ⟨_, _, rfl, rfl, ⟨_, _, rfl, rfl, ⟨_, _, rfl, rfl, ⟨_, _, rfl, rfl, ⟨_, _, rfl, rfl, ⟨_, _, rfl, rfl, ⟨_, _, rfl, rfl, ⟨_, _, rfl, rfl, ⟨_, _, rfl, rfl, ⟨_, _, rfl, rfl, ⟨_, _, rfl, rfl, rfl⟩⟩⟩⟩⟩⟩⟩⟩⟩⟩⟩⟩ := hK0
  obtain rfl := arr_of (l := [.int .i64 x0.f0, .int .i64 x0.f1, .int .i64 x0.f2, .int .i64 x0.f3, .int .i64 x0.f4, .int .u32 x0.f5.f0, .int .u32 x0.f5.f1, .int .u32 x0.f5.f2, .int .u32 x0.f5.f3, .int .u32 x0.f5.f4, .int .u32 x0.f5.f5, .int .u32 x0.f5.f6, .int .u32 x0.f5.f7]) e0
  have k1 := h1
  have lt1 : ∀ x ∈ p1, x.block < W.heap.size := by obtain ⟨m, hm⟩ := k1; exact DataW.trod_lt m _ _ _ hm
  obtain ⟨cs1, rfl, _⟩ := okWide_struct Try.underlying25 (hval 1 25 v1 rfl rfl)
  obtain ⟨x1, hK1, hw1⟩ := opened opens_25 h1 hsz (j := 1) (t := 25) rfl rfl
  obtain ⟨_, _, e1, rfl, ⟨_, _, rfl, rfl, ⟨_, _, rfl, rfl, ⟨_, _, rfl, rfl, ⟨_, _, rfl, rfl, ⟨_, _, rfl, rfl, ⟨_, _, rfl, rfl, ⟨_, _, rfl, rfl, ⟨_, _, rfl, rfl, ⟨_, _, rfl, rfl, ⟨_, _, rfl, rfl, ⟨_, _, rfl, rfl, rfl⟩⟩⟩⟩⟩⟩⟩⟩⟩⟩⟩⟩ := hK1
  obtain rfl := arr_of (l := [.int .i64 x1.f0, .int .i64 x1.f1, .int .i64 x1.f2, .int .i64 x1.f3, .int .i64 x1.f4, .int .u32 x1.f5.f0, .int .u32 x1.f5.f1, .int .u32 x1.f5.f2, .int .u32 x1.f5.f3, .int .u32 x1.f5.f4, .int .u32 x1.f5.f5, .int .u32 x1.f5.f6, .int .u32 x1.f5.f7]) e1
  have k2 := h2
  have lt2 : ∀ x ∈ p2, x.block < W.heap.size := by obtain ⟨m, hm⟩ := k2; exact DataW.trod_lt m _ _ _ hm
  obtain ⟨cs2, rfl, _⟩ := okWide_struct Try.underlying40 (hval 2 40 v2 rfl rfl)
  obtain ⟨x2, hK2, hw2⟩ := opened opens_40 h2 hsz (j := 2) (t := 40) rfl rfl
  obtain ⟨_, _, e2, rfl, ⟨_, _, rfl, rfl, ⟨A2_2, c2_2, rfl, hc2_2, hr2_2⟩⟩⟩ := hK2
  obtain rfl := arr_of (l := [.int .i64 x2.f0, .int .i64 x2.f1, .slice A2_2 x2.f2.length c2_2]) e2
  have k3 := h3
  have lt3 : ∀ x ∈ p3, x.block < W.heap.size := by obtain ⟨m, hm⟩ := k3; exact DataW.trod_lt m _ _ _ hm
  obtain ⟨cs3, rfl, _⟩ := okWide_struct Try.underlying35 (hval 3 35 v3 rfl rfl)
  obtain ⟨x3, hK3, hw3⟩ := opened opens_35 h3 hsz (j := 3) (t := 35) rfl rfl
  obtain ⟨_, _, e3, rfl, ⟨_, _, rfl, rfl, ⟨_, _, rfl, rfl, ⟨_, _, rfl, rfl, ⟨_, _, rfl, rfl, ⟨A3_5, c3_5, rfl, hc3_5, hr3_5⟩⟩⟩⟩⟩⟩ := hK3
  obtain rfl := arr_of (l := [.int .i64 x3.f0, .int .i64 x3.f1, .bool x3.f2, .int .i64 x3.f3, .int .i64 x3.f4, .slice A3_5 x3.f5.length c3_5]) e3
  clear hA0 hval0 hsz0 hsz
  obtain ⟨k, hk⟩ := Pure.ZonemapMonotone x0.f0 x0.f1 x0.f2 x0.f3 x0.f4 x0.f5.f0 x0.f5.f1 x0.f5.f2 x0.f5.f3 x0.f5.f4 x0.f5.f5 x0.f5.f6 x0.f5.f7 x1.f0 x1.f1 x1.f2 x1.f3 x1.f4 x1.f5.f0 x1.f5.f1 x1.f5.f2 x1.f5.f3 x1.f5.f4 x1.f5.f5 x1.f5.f6 x1.f5.f7 x2.f0 x2.f1 x2.f2 x3.f0 x3.f1 x3.f2 x3.f3 x3.f4 x3.f5 hw0.1 hw0.2.1 hw0.2.2.1 hw0.2.2.2.1 hw0.2.2.2.2.1 hw0.2.2.2.2.2.1 hw0.2.2.2.2.2.2.1 hw0.2.2.2.2.2.2.2.1 hw0.2.2.2.2.2.2.2.2.1 hw0.2.2.2.2.2.2.2.2.2.1 hw0.2.2.2.2.2.2.2.2.2.2.1 hw0.2.2.2.2.2.2.2.2.2.2.2.1 hw0.2.2.2.2.2.2.2.2.2.2.2.2 hw1.1 hw1.2.1 hw1.2.2.1 hw1.2.2.2.1 hw1.2.2.2.2.1 hw1.2.2.2.2.2.1 hw1.2.2.2.2.2.2.1 hw1.2.2.2.2.2.2.2.1 hw1.2.2.2.2.2.2.2.2.1 hw1.2.2.2.2.2.2.2.2.2.1 hw1.2.2.2.2.2.2.2.2.2.2.1 hw1.2.2.2.2.2.2.2.2.2.2.2.1 hw1.2.2.2.2.2.2.2.2.2.2.2.2 hw2.1 hw2.2.1 hw2.2.2.1 hw2.2.2.2.1 hw2.2.2.2.2 hw3.1 hw3.2.1 hw3.2.2.2.1 hw3.2.2.2.2.1 hw3.2.2.2.2.2.1 hw3.2.2.2.2.2.2.1 hw3.2.2.2.2.2.2.2
  refine (lookoutlaw16_ZonemapMonotone.calls (w := W) (r := true) (hs2_2 := Kd.V_mk hc2_2 (Kd.C_F Kd.heap_string hr2_2)) (hr3_5 := hr3_5) (hc3_5 := hc3_5) (h := hk)).mono fun e W' ⟨he, bel0⟩ => ?_
  have bel : Below W.heap.size W W' := bel0
  subst he
  exact ⟨_, rfl, _, _, _, [], _, [], hW', trodAll_mk1 (shut_bool Try.underlying4 _), (trodAll_cons_mk (Below.trod laidOut (by kernel_rfl) (of_decide_eq_true (by kernel_rfl)) k0 bel lt0) (trodAll_cons_mk (Below.trod laidOut (by kernel_rfl) (of_decide_eq_true (by kernel_rfl)) k1 bel lt1) (trodAll_cons_mk (Below.trod laidOut (by kernel_rfl) (of_decide_eq_true (by kernel_rfl)) k2 bel lt2) (trodAll_cons_mk (Below.trod laidOut (by kernel_rfl) (of_decide_eq_true (by kernel_rfl)) k3 bel lt3) trodAll_mk0)))), rfl, bel.frame _, fun h => by cases h⟩
theorem over : Rows.zonemapMonotoneRow.holds Try.pinned (OpenSpec.ofChange Rows.zonemapMonotoneSpec) :=
  OpenClaim.holds_of_wide 5 Try.f5 rfl rfl rfl rfl rfl rfl rfl ⟨rfl, rfl, rfl, rfl, rfl⟩ rfl rfl rfl rfl rfl (by kernel_rfl) Try.func5 (by kernel_rfl)
    (of_decide_eq_true (by kernel_rfl)) (by unfold Func.isWrapper; first | (rw [if_pos (by decide +kernel)]; kernel_rfl) | (rw [if_neg (by decide +kernel)]; exact ⟨rfl, rfl⟩))
    (fun os started H enc _ => lifted os started H enc)
theorem proved : Rows.ZonemapMonotoneSaid := over
#print axioms proved
end Go.Proofs.Ytdokabaeddaipaa.zonemapMonotone
namespace Go.Proofs.Ytdokabaeddaipaa
/-- The row, under a short name, for the claim. -/
theorem zonemapMonotone_holds : Rows.ZonemapMonotoneSaid := zonemapMonotone.proved
end Go.Proofs.Ytdokabaeddaipaa
