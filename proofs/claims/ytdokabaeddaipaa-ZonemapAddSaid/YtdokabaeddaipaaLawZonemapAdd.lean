/- Printed by a program of this session: functions of the law's Go code as Lean functions, and that the Go code computes them. No condition beyond those in the statements. -/
import Derived.Test.YtdokabaeddaipaaRows
import Derived.Test.YtdokabaeddaipaaPx8
import Derived.Test.YtdokabaeddaipaaOpens
import Derived.Test.YtdokabaeddaipaaPureZonemapAdd
import Derived.WalkKit
import Derived.ProofKit
import Derived.OpenShut
import Derived.ShutString
import Derived.ChangeOld
import Derived.Below
import Derived.SizedLaws
namespace Go.Proofs.Ytdokabaeddaipaa.zonemapAdd
open Go.ChangeShapes Go.WideShapes Go.ChangeAt Go.RowKit Go.Proofs.Ytdokabaeddaipaa.P Go.Proofs.Ytdokabaeddaipaa.Opens Go.Proofs.YtdokabaeddaipaaW.PrintWords Go.Proofs.Ytdokabaeddaipaa.Hand Go.Proofs.Ytdokabaeddaipaa.A
open Go.ChangeMaps (open_string shut_string)
set_option linter.unusedVariables false
theorem own : ownKnob Try.prog.godebug = none := by kernel_rfl
theorem laidOut : laidOutB Try.prog = true := by kernel_rfl
theorem opens_23 : Opens Try.prog 23 k23 lookoutlaw16_ZonemapAdd.WT23 := by
  have h := opens_iso (f := fun x : S23 => (x.f0, x.f1, x.f2, x.f3, x.f4, x.f5, x.f6, x.f7)) (g := fun y => (⟨y.1, y.2.1, y.2.2.1, y.2.2.2.1, y.2.2.2.2.1, y.2.2.2.2.2.1, y.2.2.2.2.2.2.1, y.2.2.2.2.2.2.2⟩ : S23)) (fun _ => rfl) (opens_array (t := 23) Try.underlying23 (show Try.prog.cellsOf 22 = 1 by kernel_rfl) (by kernel_rfl) (show OpensFs Try.prog (arFs 22 0 8) 0 _ _ from (opensFs_cons rfl (by kernel_rfl) (opens_int Try.underlying22) (opensFs_cons rfl (by kernel_rfl) (opens_int Try.underlying22) (opensFs_cons rfl (by kernel_rfl) (opens_int Try.underlying22) (opensFs_cons rfl (by kernel_rfl) (opens_int Try.underlying22) (opensFs_cons rfl (by kernel_rfl) (opens_int Try.underlying22) (opensFs_cons rfl (by kernel_rfl) (opens_int Try.underlying22) (opensFs_cons rfl (by kernel_rfl) (opens_int Try.underlying22) (opensFs_one rfl (by kernel_rfl) (opens_int Try.underlying22)))))))))))
  exact h
theorem opens_25 : Opens Try.prog 25 k25 lookoutlaw16_ZonemapAdd.WT25 := by
  have h := opens_iso (f := fun x : S25 => (x.f0, x.f1, x.f2, x.f3, x.f4, x.f5)) (g := fun y => (⟨y.1, y.2.1, y.2.2.1, y.2.2.2.1, y.2.2.2.2.1, y.2.2.2.2.2⟩ : S25)) (fun _ => rfl) (opens_struct (t := 25) Try.underlying25 (by kernel_rfl) (opensFs_cons rfl (by kernel_rfl) (opens_int Try.underlying3) (opensFs_cons rfl (by kernel_rfl) (opens_int Try.underlying3) (opensFs_cons rfl (by kernel_rfl) (opens_int Try.underlying3) (opensFs_cons rfl (by kernel_rfl) (opens_int Try.underlying3) (opensFs_cons rfl (by kernel_rfl) (opens_int Try.underlying3) (opensFs_one rfl (by kernel_rfl) opens_23)))))))
  exact h
set_option maxRecDepth 100000 in
theorem lifted (os : Os) (started : os.Started) (H : Type) (enc : TypeId × Value → H) :
    ReturnsInHanded {} Try.checked os 3 .any (Rows.zonemapAddSpec.pre6 enc Try.prog Try.f3 Rows.zonemapAddRow.domain false) (Rows.zonemapAddSpec.post enc Try.prog Try.f3 false true false false) := by
  refine returnsInHanded_of_change_sized (C := Try.checked) own started (by kernel_rfl) Try.func3
    (ChangeSpec.witness6 (enc := enc) (C := Try.checked) false ⟨#[], #[.agg #[.int .i64 0, .int .i64 0, .int .i64 0, .int .i64 0, .int .i64 0, .int .u32 0, .int .u32 0, .int .u32 0, .int .u32 0, .int .u32 0, .int .u32 0, .int .u32 0, .int .u32 0], .int .i64 0, .int .i64 0, .slice none 0 0, .string ByteArray.empty], []⟩ 8 (by kernel_rfl) (by kernel_rfl) (by kernel_rfl) (by kernel_rfl)) ?_
  intro W base args ds gs before hval0 hW hcnd hsz0 _
  have hsz : (DataW.weightsEach Try.prog (Try.f3.params.toList ++ Rows.zonemapAddSpec.plain.varTypes Try.prog) (ds ++ gs)).all (· ≤ reachBytes) = true := hsz0
  have hval : ∀ (j : Nat) t v, Try.f3.params[j]? = some t → args[j]? = some v → Value.okWide Try.prog W .any base t v := hval0
  have hW' := hW
  obtain ⟨p, q, hA0, hV, rfl, hfz, hnd⟩ := hW
  have hA : DataW.TrodAll enc Try.prog W 0 (fun _ => true) true Try.f3.params.toList args.toList ds p := hA0
  rw [Try.params3] at hA hval hsz
  obtain ⟨v0, vs0, d0, ds0, p0, q0, hargs, rfl, rfl, h0, r0⟩ := trodAll_cons hA
  obtain ⟨v1, vs1, d1, ds1, p1, q1, rfl, rfl, rfl, h1, r1⟩ := trodAll_cons r0
  obtain ⟨v2, vs2, d2, ds2, p2, q2, rfl, rfl, rfl, h2, r2⟩ := trodAll_cons r1
  obtain ⟨v3, vs3, d3, ds3, p3, q3, rfl, rfl, rfl, h3, r3⟩ := trodAll_cons r2
  obtain ⟨v4, vs4, d4, ds4, p4, q4, rfl, rfl, rfl, h4, r4⟩ := trodAll_cons r3
  obtain ⟨rfl, rfl, rfl⟩ := trodAll_nil r4
  obtain rfl : args = #[v0, v1, v2, v3, v4] := by cases args; simp_all
  obtain ⟨rfl, rfl⟩ := trodVars_none hV
  have k0 := h0
  have lt0 : ∀ x ∈ p0, x.block < W.heap.size := by obtain ⟨m, hm⟩ := k0; exact DataW.trod_lt m _ _ _ hm
  obtain ⟨cs0, rfl, _⟩ := okWide_struct Try.underlying25 (hval 0 25 v0 rfl rfl)
  obtain ⟨x0, hK0, hw0⟩ := opened opens_25 h0 hsz (j := 0) (t := 25) rfl rfl
  obtain ⟨_, _, e0, rfl, ⟨_, _, rfl, rfl, ⟨_, _, rfl, rfl, ⟨_, _, rfl, rfl, ⟨_, _, rfl, rfl, ⟨_, _, rfl, rfl, ⟨_, _, rfl, rfl, ⟨_, _, rfl, rfl, ⟨_, _, rfl, rfl, ⟨_, _, rfl, rfl, ⟨_, _, rfl, rfl, ⟨_, _, rfl, rfl, rfl⟩⟩⟩⟩⟩⟩⟩⟩⟩⟩⟩⟩ := hK0
  obtain rfl := arr_of (l := [.int .i64 x0.f0, .int .i64 x0.f1, .int .i64 x0.f2, .int .i64 x0.f3, .int .i64 x0.f4, .int .u32 x0.f5.f0, .int .u32 x0.f5.f1, .int .u32 x0.f5.f2, .int .u32 x0.f5.f3, .int .u32 x0.f5.f4, .int .u32 x0.f5.f5, .int .u32 x0.f5.f6, .int .u32 x0.f5.f7]) e0
  obtain ⟨a1, rfl, rfl, rfl, w1⟩ := open_int Try.underlying3 (hval 1 3 v1 rfl rfl) h1
  obtain ⟨a2, rfl, rfl, rfl, w2⟩ := open_int Try.underlying3 (hval 2 3 v2 rfl rfl) h2
  have k3 := h3
  have lt3 : ∀ x ∈ p3, x.block < W.heap.size := by obtain ⟨m, hm⟩ := k3; exact DataW.trod_lt m _ _ _ hm
  obtain ⟨A3, len3, c3, rfl⟩ := okWide_slice Try.underlying26 (hval 3 26 v3 rfl rfl)
  obtain ⟨l3, hK3, hw3⟩ := opened (opens_slice Try.underlying26 (opens_string Try.underlying9) (by kernel_rfl) (show Try.prog.bytesOf 9 = 16 by kernel_rfl)) h3 hsz (j := 3) (t := 26) rfl rfl
  obtain ⟨rfl, hc3, hr3⟩ := slice_at hK3
  obtain ⟨a4, rfl, rfl, rfl, y4⟩ := open_string Try.underlying9 (hval 4 9 v4 rfl rfl) h4
  have w4 : a4.size ≤ 140737488351232 := by
    have z := sized_string hsz (j := 4) (t := 9) rfl rfl
    rw [Array.length_toList] at z
    exact z
  clear hA0 hval0 hsz0 hsz
  obtain ⟨k, hk⟩ := Pure.ZonemapAdd x0.f0 x0.f1 x0.f2 x0.f3 x0.f4 x0.f5.f0 x0.f5.f1 x0.f5.f2 x0.f5.f3 x0.f5.f4 x0.f5.f5 x0.f5.f6 x0.f5.f7 a1 a2 l3 a4 hw0.1 hw0.2.1 hw0.2.2.1 hw0.2.2.2.1 hw0.2.2.2.2.1 hw0.2.2.2.2.2.1 hw0.2.2.2.2.2.2.1 hw0.2.2.2.2.2.2.2.1 hw0.2.2.2.2.2.2.2.2.1 hw0.2.2.2.2.2.2.2.2.2.1 hw0.2.2.2.2.2.2.2.2.2.2.1 hw0.2.2.2.2.2.2.2.2.2.2.2.1 hw0.2.2.2.2.2.2.2.2.2.2.2.2 w1 w2 hw3.1 hw3.2.1 hw3.2.2 w4
  refine (lookoutlaw16_ZonemapAdd.calls (w := W) (r := true) (hr3 := hr3) (hc3 := hc3) (h := hk)).mono fun e W' ⟨he, bel0⟩ => ?_
  have bel : Below W.heap.size W W' := bel0
  subst he
  exact ⟨_, rfl, _, _, _, [], _, [], hW', trodAll_mk1 (shut_bool Try.underlying4 _), (trodAll_cons_mk (Below.trod laidOut (by kernel_rfl) (of_decide_eq_true (by kernel_rfl)) k0 bel lt0) (trodAll_cons_mk (shut_int Try.underlying3 w1) (trodAll_cons_mk (shut_int Try.underlying3 w2) (trodAll_cons_mk (Below.trod laidOut (by kernel_rfl) (of_decide_eq_true (by kernel_rfl)) k3 bel lt3) (trodAll_cons_mk (shut_string Try.underlying9 y4) trodAll_mk0))))), rfl, bel.frame _, fun h => by cases h⟩
theorem over : Rows.zonemapAddRow.holds Try.pinned (OpenSpec.ofChange Rows.zonemapAddSpec) :=
  OpenClaim.holds_of_wide 3 Try.f3 rfl rfl rfl rfl rfl rfl rfl ⟨rfl, rfl, rfl, rfl, rfl⟩ rfl rfl rfl rfl rfl (by kernel_rfl) Try.func3 (by kernel_rfl)
    (of_decide_eq_true (by kernel_rfl)) (by unfold Func.isWrapper; first | (rw [if_pos (by decide +kernel)]; kernel_rfl) | (rw [if_neg (by decide +kernel)]; exact ⟨rfl, rfl⟩))
    (fun os started H enc _ => lifted os started H enc)
theorem proved : Rows.ZonemapAddSaid := over
#print axioms proved
end Go.Proofs.Ytdokabaeddaipaa.zonemapAdd
namespace Go.Proofs.Ytdokabaeddaipaa
/-- The row, under a short name, for the claim. -/
theorem zonemapAdd_holds : Rows.ZonemapAddSaid := zonemapAdd.proved
end Go.Proofs.Ytdokabaeddaipaa
