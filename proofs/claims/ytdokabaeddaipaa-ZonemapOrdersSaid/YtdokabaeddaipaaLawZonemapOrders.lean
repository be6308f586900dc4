/- Printed by a program of this session: functions of the law's Go code as Lean functions, and that the Go code computes them. No condition beyond those in the statements. -/
import Derived.Test.YtdokabaeddaipaaRows
import Derived.Test.YtdokabaeddaipaaOx7
import Derived.Test.YtdokabaeddaipaaOpens
import Derived.Test.YtdokabaeddaipaaPureZonemapOrders
import Derived.WalkKit
import Derived.ProofKit
import Derived.OpenShut
import Derived.ShutString
import Derived.ChangeOld
import Derived.Below
import Derived.SizedLaws
namespace Go.Proofs.Ytdokabaeddaipaa.zonemapOrders
open Go.ChangeShapes Go.WideShapes Go.ChangeAt Go.RowKit Go.Proofs.Ytdokabaeddaipaa.O Go.Proofs.Ytdokabaeddaipaa.Opens Go.Proofs.YtdokabaeddaipaaW.PrintWords Go.Proofs.Ytdokabaeddaipaa.Hand Go.Proofs.Ytdokabaeddaipaa.A Go.Proofs.Ytdokabaeddaipaa.P
open Go.ChangeMaps (open_string shut_string)
set_option linter.unusedVariables false
theorem k40_heap : Kd.Heap k40 := Kd.heap_iso _ (Kd.heap_pair (Kd.heap_int .i64) (Kd.heap_pair (Kd.heap_int .i64) (Kd.heap_slice 9 Kd.heap_string)))
theorem own : ownKnob Try.prog.godebug = none := by kernel_rfl
theorem laidOut : laidOutB Try.prog = true := by kernel_rfl
theorem opens_40 : Opens Try.prog 40 k40 lookoutlaw16_ZonemapOrders.WT40 := by
  have h := opens_iso (f := fun x : S40 => (x.f0, x.f1, x.f2)) (g := fun y => (⟨y.1, y.2.1, y.2.2⟩ : S40)) (fun _ => rfl) (opens_struct (t := 40) Try.underlying40 (by kernel_rfl) (opensFs_cons rfl (by kernel_rfl) (opens_int Try.underlying3) (opensFs_cons rfl (by kernel_rfl) (opens_int Try.underlying3) (opensFs_one rfl (by kernel_rfl) (opens_slice Try.underlying26 (opens_string Try.underlying9) (by kernel_rfl) (show Try.prog.bytesOf 9 = 16 by kernel_rfl))))))
  exact h
set_option maxRecDepth 100000 in
theorem lifted (os : Os) (started : os.Started) (H : Type) (enc : TypeId × Value → H) :
    ReturnsInHanded {} Try.checked os 8 .any (Rows.zonemapOrdersSpec.pre6 enc Try.prog Try.f8 Rows.zonemapOrdersRow.domain false) (Rows.zonemapOrdersSpec.post enc Try.prog Try.f8 false true false false) := by
  refine returnsInHanded_of_change_sized (C := Try.checked) own started (by kernel_rfl) Try.func8
    (ChangeSpec.witness6 (enc := enc) (C := Try.checked) false ⟨#[], #[.slice none 0 0, .slice none 0 0, .slice none 0 0], []⟩ 8 (by kernel_rfl) (by kernel_rfl) (by kernel_rfl) (by kernel_rfl)) ?_
  intro W base args ds gs before hval0 hW hcnd hsz0 _
  have hsz : (DataW.weightsEach Try.prog (Try.f8.params.toList ++ Rows.zonemapOrdersSpec.plain.varTypes Try.prog) (ds ++ gs)).all (· ≤ reachBytes) = true := hsz0
  have hval : ∀ (j : Nat) t v, Try.f8.params[j]? = some t → args[j]? = some v → Value.okWide Try.prog W .any base t v := hval0
  have hW' := hW
  obtain ⟨p, q, hA0, hV, rfl, hfz, hnd⟩ := hW
  have hA : DataW.TrodAll enc Try.prog W 0 (fun _ => true) true Try.f8.params.toList args.toList ds p := hA0
  rw [Try.params8] at hA hval hsz
  obtain ⟨v0, vs0, d0, ds0, p0, q0, hargs, rfl, rfl, h0, r0⟩ := trodAll_cons hA
  obtain ⟨v1, vs1, d1, ds1, p1, q1, rfl, rfl, rfl, h1, r1⟩ := trodAll_cons r0
  obtain ⟨v2, vs2, d2, ds2, p2, q2, rfl, rfl, rfl, h2, r2⟩ := trodAll_cons r1
  obtain ⟨rfl, rfl, rfl⟩ := trodAll_nil r2
  obtain rfl : args = #[v0, v1, v2] := by cases args; simp_all
  obtain ⟨rfl, rfl⟩ := trodVars_none hV
  have k0 := h0
  have lt0 : ∀ x ∈ p0, x.block < W.heap.size := by obtain ⟨m, hm⟩ := k0; exact DataW.trod_lt m _ _ _ hm
  obtain ⟨A0, len0, c0, rfl⟩ := okWide_slice Try.underlying42 (hval 0 42 v0 rfl rfl)
  obtain ⟨l0, hK0, hw0⟩ := opened (opens_slice Try.underlying42 opens_40 (by kernel_rfl) (show Try.prog.bytesOf 40 = 40 by kernel_rfl)) h0 hsz (j := 0) (t := 42) rfl rfl
  obtain ⟨rfl, hc0, hr0⟩ := slice_at hK0
  have k1 := h1
  have lt1 : ∀ x ∈ p1, x.block < W.heap.size := by obtain ⟨m, hm⟩ := k1; exact DataW.trod_lt m _ _ _ hm
  obtain ⟨A1, len1, c1, rfl⟩ := okWide_slice Try.underlying42 (hval 1 42 v1 rfl rfl)
  obtain ⟨l1, hK1, hw1⟩ := opened (opens_slice Try.underlying42 opens_40 (by kernel_rfl) (show Try.prog.bytesOf 40 = 40 by kernel_rfl)) h1 hsz (j := 1) (t := 42) rfl rfl
  obtain ⟨rfl, hc1, hr1⟩ := slice_at hK1
  have k2 := h2
  have lt2 : ∀ x ∈ p2, x.block < W.heap.size := by obtain ⟨m, hm⟩ := k2; exact DataW.trod_lt m _ _ _ hm
  obtain ⟨A2, len2, c2, rfl⟩ := okWide_slice Try.underlying42 (hval 2 42 v2 rfl rfl)
  obtain ⟨l2, hK2, hw2⟩ := opened (opens_slice Try.underlying42 opens_40 (by kernel_rfl) (show Try.prog.bytesOf 40 = 40 by kernel_rfl)) h2 hsz (j := 2) (t := 42) rfl rfl
  obtain ⟨rfl, hc2, hr2⟩ := slice_at hK2
  clear hA0 hval0 hsz0 hsz
  obtain ⟨k, hk⟩ := Pure.ZonemapOrders l0 l1 l2 hw0.1 hw0.2.1 hw0.2.2 hw1.1 hw1.2.1 hw1.2.2 hw2.1 hw2.2.1 hw2.2.2
  refine (lookoutlaw16_ZonemapOrders.calls (w := W) (r := true) (hs0 := Kd.V_mk hc0 (Kd.C_F k40_heap hr0)) (hs1 := Kd.V_mk hc1 (Kd.C_F k40_heap hr1)) (hr2 := hr2) (hc2 := hc2) (h := hk)).mono fun e W' ⟨he, bel0⟩ => ?_
  have bel : Below W.heap.size W W' := bel0
  subst he
  exact ⟨_, rfl, _, _, _, [], _, [], hW', trodAll_mk1 (shut_bool Try.underlying4 _), (trodAll_cons_mk (Below.trod laidOut (by kernel_rfl) (of_decide_eq_true (by kernel_rfl)) k0 bel lt0) (trodAll_cons_mk (Below.trod laidOut (by kernel_rfl) (of_decide_eq_true (by kernel_rfl)) k1 bel lt1) (trodAll_cons_mk (Below.trod laidOut (by kernel_rfl) (of_decide_eq_true (by kernel_rfl)) k2 bel lt2) trodAll_mk0))), rfl, bel.frame _, fun h => by cases h⟩
theorem over : Rows.zonemapOrdersRow.holds Try.pinned (OpenSpec.ofChange Rows.zonemapOrdersSpec) :=
  OpenClaim.holds_of_wide 8 Try.f8 rfl rfl rfl rfl rfl rfl rfl ⟨rfl, rfl, rfl, rfl, rfl⟩ rfl rfl rfl rfl rfl (by kernel_rfl) Try.func8 (by kernel_rfl)
    (of_decide_eq_true (by kernel_rfl)) (by unfold Func.isWrapper; first | (rw [if_pos (by decide +kernel)]; kernel_rfl) | (rw [if_neg (by decide +kernel)]; exact ⟨rfl, rfl⟩))
    (fun os started H enc _ => lifted os started H enc)
theorem proved : Rows.ZonemapOrdersSaid := over
#print axioms proved
end Go.Proofs.Ytdokabaeddaipaa.zonemapOrders
namespace Go.Proofs.Ytdokabaeddaipaa
/-- The row, under a short name, for the claim. -/
theorem zonemapOrders_holds : Rows.ZonemapOrdersSaid := zonemapOrders.proved
end Go.Proofs.Ytdokabaeddaipaa
