/- Printed by a program of this session: functions of the law's Go code as Lean functions, and that the Go code computes them. No condition beyond those in the statements. -/
import Derived.Test.YtdokabaeddaipaaRows
import Derived.Test.YtdokabaeddaipaaPx12
import Derived.Test.YtdokabaeddaipaaOpens
import Derived.Test.YtdokabaeddaipaaPureZonemapHits
import Derived.WalkKit
import Derived.ProofKit
import Derived.OpenShut
import Derived.ShutString
import Derived.ChangeOld
import Derived.Below
import Derived.SizedLaws
namespace Go.Proofs.Ytdokabaeddaipaa.zonemapHits
open Go.ChangeShapes Go.WideShapes Go.ChangeAt Go.RowKit Go.Proofs.Ytdokabaeddaipaa.P Go.Proofs.Ytdokabaeddaipaa.Opens Go.Proofs.YtdokabaeddaipaaW.PrintWords Go.Proofs.Ytdokabaeddaipaa.Hand Go.Proofs.Ytdokabaeddaipaa.A
open Go.ChangeMaps (open_string shut_string)
set_option linter.unusedVariables false
theorem own : ownKnob Try.prog.godebug = none := by kernel_rfl
theorem laidOut : laidOutB Try.prog = true := by kernel_rfl
theorem opens_40 : Opens Try.prog 40 k40 lookoutlaw16_ZonemapHits.WT40 := by
  have h := opens_iso (f := fun x : S40 => (x.f0, x.f1, x.f2)) (g := fun y => (⟨y.1, y.2.1, y.2.2⟩ : S40)) (fun _ => rfl) (opens_struct (t := 40) Try.underlying40 (by kernel_rfl) (opensFs_cons rfl (by kernel_rfl) (opens_int Try.underlying3) (opensFs_cons rfl (by kernel_rfl) (opens_int Try.underlying3) (opensFs_one rfl (by kernel_rfl) (opens_slice Try.underlying26 (opens_string Try.underlying9) (by kernel_rfl) (show Try.prog.bytesOf 9 = 16 by kernel_rfl))))))
  exact h
theorem opens_35 : Opens Try.prog 35 k35 lookoutlaw16_ZonemapHits.WT35 := by
  have h := opens_iso (f := fun x : S35 => (x.f0, x.f1, x.f2, x.f3, x.f4, x.f5)) (g := fun y => (⟨y.1, y.2.1, y.2.2.1, y.2.2.2.1, y.2.2.2.2.1, y.2.2.2.2.2⟩ : S35)) (fun _ => rfl) (opens_struct (t := 35) Try.underlying35 (by kernel_rfl) (opensFs_cons rfl (by kernel_rfl) (opens_int Try.underlying3) (opensFs_cons rfl (by kernel_rfl) (opens_int Try.underlying3) (opensFs_cons rfl (by kernel_rfl) (opens_bool Try.underlying4) (opensFs_cons rfl (by kernel_rfl) (opens_int Try.underlying3) (opensFs_cons rfl (by kernel_rfl) (opens_int Try.underlying3) (opensFs_one rfl (by kernel_rfl) (opens_slice Try.underlying26 (opens_string Try.underlying9) (by kernel_rfl) (show Try.prog.bytesOf 9 = 16 by kernel_rfl)))))))))
  exact h
set_option maxRecDepth 100000 in
theorem lifted (os : Os) (started : os.Started) (H : Type) (enc : TypeId × Value → H) :
    ReturnsInHanded {} Try.checked os 7 .any (Rows.zonemapHitsSpec.pre6 enc Try.prog Try.f7 Rows.zonemapHitsRow.domain false) (Rows.zonemapHitsSpec.post enc Try.prog Try.f7 false true false false) := by
  refine returnsInHanded_of_change_sized (C := Try.checked) own started (by kernel_rfl) Try.func7
    (ChangeSpec.witness6 (enc := enc) (C := Try.checked) false ⟨#[], #[.slice none 0 0, .slice none 0 0, .agg #[.int .i64 0, .int .i64 0, .bool false, .int .i64 0, .int .i64 0, .slice none 0 0]], []⟩ 8 (by kernel_rfl) (by kernel_rfl) (by kernel_rfl) (by kernel_rfl)) ?_
  intro W base args ds gs before hval0 hW hcnd hsz0 _
  have hsz : (DataW.weightsEach Try.prog (Try.f7.params.toList ++ Rows.zonemapHitsSpec.plain.varTypes Try.prog) (ds ++ gs)).all (· ≤ reachBytes) = true := hsz0
  have hval : ∀ (j : Nat) t v, Try.f7.params[j]? = some t → args[j]? = some v → Value.okWide Try.prog W .any base t v := hval0
  have hW' := hW
  obtain ⟨p, q, hA0, hV, rfl, hfz, hnd⟩ := hW
  have hA : DataW.TrodAll enc Try.prog W 0 (fun _ => true) true Try.f7.params.toList args.toList ds p := hA0
  rw [Try.params7] at hA hval hsz
  obtain ⟨v0, vs0, d0, ds0, p0, q0, hargs, rfl, rfl, h0, r0⟩ := trodAll_cons hA
  obtain ⟨v1, vs1, d1, ds1, p1, q1, rfl, rfl, rfl, h1, r1⟩ := trodAll_cons r0
  obtain ⟨v2, vs2, d2, ds2, p2, q2, rfl, rfl, rfl, h2, r2⟩ := trodAll_cons r1
  obtain ⟨rfl, rfl, rfl⟩ := trodAll_nil r2
  obtain rfl : args = #[v0, v1, v2] := by cases args; simp_all
  obtain ⟨rfl, rfl⟩ := trodVars_none hV
  have k0 := h0
  have lt0 : ∀ x ∈ p0, x.block < W.heap.size := by obtain ⟨m, hm⟩ := k0; exact DataW.trod_lt m _ _ _ hm
  obtain ⟨A0, len0, c0, rfl⟩ := okWide_slice Try.underlying42 (hval 0 42 v0 rfl rfl)
  obtain ⟨l0, hK0, hw0⟩ := opened (opens_slice Try.underlying42 opens_40 (by kernel_rfl) (show Try.prog.bytesOf 40 = 40 by kernel_rfl)) h0 hsz (j := 0) (t := 42) rfl rfl
  obtain ⟨rfl, hc0, hr0⟩ := slice_at hK0
  have k1 := h1
  have lt1 : ∀ x ∈ p1, x.block < W.heap.size := by obtain ⟨m, hm⟩ := k1; exact DataW.trod_lt m _ _ _ hm
  obtain ⟨A1, len1, c1, rfl⟩ := okWide_slice Try.underlying42 (hval 1 42 v1 rfl rfl)
  obtain ⟨l1, hK1, hw1⟩ := opened (opens_slice Try.underlying42 opens_40 (by kernel_rfl) (show Try.prog.bytesOf 40 = 40 by kernel_rfl)) h1 hsz (j := 1) (t := 42) rfl rfl
  obtain ⟨rfl, hc1, hr1⟩ := slice_at hK1
  have k2 := h2
  have lt2 : ∀ x ∈ p2, x.block < W.heap.size := by obtain ⟨m, hm⟩ := k2; exact DataW.trod_lt m _ _ _ hm
  obtain ⟨cs2, rfl, _⟩ := okWide_struct Try.underlying35 (hval 2 35 v2 rfl rfl)
  obtain ⟨x2, hK2, hw2⟩ := opened opens_35 h2 hsz (j := 2) (t := 35) rfl rfl
  obtain ⟨_, _, e2, rfl, ⟨_, _, rfl, rfl, ⟨_, _, rfl, rfl, ⟨_, _, rfl, rfl, ⟨_, _, rfl, rfl, ⟨A2_5, c2_5, rfl, hc2_5, hr2_5⟩⟩⟩⟩⟩⟩ := hK2
  obtain rfl := arr_of (l := [.int .i64 x2.f0, .int .i64 x2.f1, .bool x2.f2, .int .i64 x2.f3, .int .i64 x2.f4, .slice A2_5 x2.f5.length c2_5]) e2
  clear hA0 hval0 hsz0 hsz
  obtain ⟨k, hk⟩ := Pure.ZonemapHits l0 l1 x2.f0 x2.f1 x2.f2 x2.f3 x2.f4 x2.f5 hw0.1 hw0.2.1 hw0.2.2 hw1.1 hw1.2.1 hw1.2.2 hw2.1 hw2.2.1 hw2.2.2.2.1 hw2.2.2.2.2.1 hw2.2.2.2.2.2.1 hw2.2.2.2.2.2.2.1 hw2.2.2.2.2.2.2.2
  refine (lookoutlaw16_ZonemapHits.calls (w := W) (r := true) (hr0 := hr0) (hc0 := hc0) (hr1 := hr1) (hc1 := hc1) (hr2_5 := hr2_5) (hc2_5 := hc2_5) (h := hk)).mono fun e W' ⟨he, bel0⟩ => ?_
  have bel : Below W.heap.size W W' := bel0
  subst he
  exact ⟨_, rfl, _, _, _, [], _, [], hW', trodAll_mk1 (shut_bool Try.underlying4 _), (trodAll_cons_mk (Below.trod laidOut (by kernel_rfl) (of_decide_eq_true (by kernel_rfl)) k0 bel lt0) (trodAll_cons_mk (Below.trod laidOut (by kernel_rfl) (of_decide_eq_true (by kernel_rfl)) k1 bel lt1) (trodAll_cons_mk (Below.trod laidOut (by kernel_rfl) (of_decide_eq_true (by kernel_rfl)) k2 bel lt2) trodAll_mk0))), rfl, bel.frame _, fun h => by cases h⟩
theorem over : Rows.zonemapHitsRow.holds Try.pinned (OpenSpec.ofChange Rows.zonemapHitsSpec) :=
  OpenClaim.holds_of_wide 7 Try.f7 rfl rfl rfl rfl rfl rfl rfl ⟨rfl, rfl, rfl, rfl, rfl⟩ rfl rfl rfl rfl rfl (by kernel_rfl) Try.func7 (by kernel_rfl)
    (of_decide_eq_true (by kernel_rfl)) (by unfold Func.isWrapper; first | (rw [if_pos (by decide +kernel)]; kernel_rfl) | (rw [if_neg (by decide +kernel)]; exact ⟨rfl, rfl⟩))
    (fun os started H enc _ => lifted os started H enc)
theorem proved : Rows.ZonemapHitsSaid := over
#print axioms proved
end Go.Proofs.Ytdokabaeddaipaa.zonemapHits
namespace Go.Proofs.Ytdokabaeddaipaa
/-- The row, under a short name, for the claim. -/
theorem zonemapHits_holds : Rows.ZonemapHitsSaid := zonemapHits.proved
end Go.Proofs.Ytdokabaeddaipaa
