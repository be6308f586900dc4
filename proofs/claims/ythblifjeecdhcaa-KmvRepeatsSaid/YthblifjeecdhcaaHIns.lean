/- The contract of kmv.insert: what the Go code returns for a row of the caller's own. No further condition. -/
import Derived.Test.YthblifjeecdhcaaInsert
import Derived.Test.YthblifjeecdhcaaCloneInt
import Derived.Test.YthblifjeecdhcaaAx4
import Derived.Test.YthblifjeecdhcaaWKept
namespace Go.Proofs.Ythblifjeecdhcaa.Hand
open Go.RowKit Go.Shelf Go.Proofs.YthblifjeecdhcaaW.PrintWords Go.Proofs.YthblifjeecdhcaaW.PrintMore Go.Proofs.Ythblifjeecdhcaa.A
set_option linter.unusedVariables false
set_option linter.unusedSimpArgs false
def insG (l : List Int) (i x most : Int) : Option (List Int) := if 0 ≤ i ∧ i ≤ (l.length : Int) ∧ l.length + 1 < 17592186044416 then (if most < ((l.length + 1 : Nat) : Int) then (if 0 ≤ most then some ((l.take i.toNat ++ x :: l.drop i.toNat).take most.toNat) else none) else some (l.take i.toNat ++ x :: l.drop i.toNat)) else none
def kmv_insert.f (k : Nat) (l0 : List Int) (a1 a2 : Int) : Option (List Int) := (slices_BinarySearch_int_int.f k l0 a1).bind fun p => if p.2 = true then some l0 else insG l0 p.1 a1 a2
theorem kmv_insert.mono : ∀ a0 a1 a2 k, LeO (kmv_insert.f k a0 a1 a2) (kmv_insert.f (k + 1) a0 a1 a2) := by
  intro a0 a1 a2 k
  unfold kmv_insert.f
  exact LeO.bind (slices_BinarySearch_int_int.mono _ _ _) (fun p => LeO.refl _)
set_option maxRecDepth 100000 in
set_option maxHeartbeats 4000000 in
theorem kmv_insert.calls (k : Nat) (P0_ : Nat → Prop) (u9000_ : Value) (l0 : List Int) (a1 a2 : Int) (r : List Int) (w0 w : World) (hB : Below w0.heap.size w0 w) (ho0 : Kd.R (Kd.int .i64) 3 w w0.heap.size P0_ u9000_ l0) (h : kmv_insert.f k l0 a1 a2 = some r) :
    Calls Try.prog 35 #[u9000_, .int .i64 a1, .int .i64 a2] w fun e w' => ∃ v0_ : Value, e = .returned v0_ ∧ Kd.R (Kd.int .i64) 3 w' w0.heap.size (fun k_ => (P0_ k_ ∨ w.heap.size ≤ k_)) v0_ r ∧ Below w0.heap.size w0 w' ∧ Kept w w' (fun k_ => P0_ k_) := by
  unfold kmv_insert.f at h
  replace h := Option.bind_eq_some_iff.1 h
  obtain ⟨⟨i, f⟩, hbs, h⟩ := h
  dsimp only at h
  obtain ⟨A0, c0, rfl⟩ := Kd.R_slice ho0
  have HBS := Aside0.mk hbs
  have HO := Aside0.mk ho0
  have HB := Aside0.mk hB
  have hrd := Kd.R_reads' ho0
  have HRD := Aside0.mk hrd.2.2
  have hc0 := hrd.2.1
  have hsz := hB.size
  clear hbs ho0 hB hrd
  go_enter Try.func35, Try.ntmps35
  cases f with
  | true =>
    rw [if_pos rfl] at h
    cases h
    go_wp2_with (go_at_call 56; refine (slices_BinarySearch_int_int.calls k A0 c0 l0 a1 i true _ HRD.out hc0 HBS.out).mono ?_; rintro e w' ⟨rfl, ⟨nd, rfl⟩⟩)
    go_ret
    exact ⟨_, rfl, Kd.R_drewN (Kd.R_mono HO.out (fun _ hk => .inl hk)) nd, pw_below_drewN HB.out nd, (Kept.refl w _).drewN nd⟩
  | false =>
    rw [if_neg (by simp)] at h
    unfold insG at h
    split at h
    case isFalse => cases h
    rename_i hc
    obtain ⟨h0, h1, hlen⟩ := hc
    obtain ⟨n, rfl⟩ := Int.eq_ofNat_of_zero_le h0
    simp only [Int.ofNat_eq_natCast, Int.toNat_natCast] at h
    have hn : n ≤ l0.length := by simpa using h1
    go_wp2_with (go_at_call 56; refine (slices_BinarySearch_int_int.calls k A0 c0 l0 a1 _ false _ HRD.out hc0 HBS.out).mono ?_; rintro e w' ⟨rfl, ⟨nd, rfl⟩⟩)
    obtain ⟨W2, hW2⟩ : ∃ W2, W2 = (w.drewN nd).alloc (.cells #[.int .i64 a1] 3) := ⟨_, rfl⟩
    have hb2 : Below w.heap.size w W2 := by rw [hW2]; exact (pw_below_drewN (Below.refl _ w) nd).alloc (by simp [World.drewN]) _
    have hs2 : W2.heap.size = w.heap.size + 1 := by rw [hW2]; simp [World.drewN]
    have hv2 : W2.heap[w.heap.size]? = some (.cells #[.int .i64 a1] 3 (0, 0)) := by rw [hW2]; exact World.alloc_heap_new (w.drewN nd) _
    have ho2 := Kd.R_below HO.out hb2
    have hown := Kd.own_of_R ho2
    have hlt := Kd.R_lt HO.out
    rw [← hW2]
    have C := insert_own w0.heap.size (.slice A0 l0.length c0) l0 n a1 w.heap.size W2 hown hn hlen hv2 (fun e => by have := hlt _ e; omega) (by omega)
    refine C.mono ?_
    rintro e W3 ⟨v3, rfl, hown3, hg3, hat3⟩
    have hys : ((nums .i64 l0).take n ++ .int .i64 a1 :: (nums .i64 l0).drop n).length = l0.length + 1 := by simp [nums]; omega
    have hym : (nums .i64 l0).take n ++ .int .i64 a1 :: (nums .i64 l0).drop n = nums .i64 (l0.take n ++ a1 :: l0.drop n) := by simp [nums]
    have hle : (l0.take n ++ a1 :: l0.drop n).length = l0.length + 1 := by simp; omega
    rw [hys, hym] at hown3
    have hok3 : ∀ k, v3.ownBlock = some k → (P0_ k ∨ w.heap.size ≤ k) := fun k hk => by
      rcases hat3 with h3 | ⟨b, h3, hb⟩
      · rw [h3] at hk; exact .inl (HO.out.1 k hk)
      · rw [h3] at hk; cases hk; exact .inr (by omega)
    have hR3 : Kd.R (Kd.int .i64) 3 W3 w0.heap.size (fun k_ => (P0_ k_ ∨ w.heap.size ≤ k_)) v3 (l0.take n ++ a1 :: l0.drop n) := Kd.R_of_own (by rw [hle]; exact hown3) hok3
    have hB3 : Below w0.heap.size w0 W3 := (HB.out.trans (hb2.mono hsz)).grown hg3 (by omega) (fun k hk => Kd.R_base HO.out k hk)
    have hK3 : Kept w W3 (fun k_ => P0_ k_) := Kept.of_grown hg3 (Kept.of_below hb2 _) (fun k hk => .inl (HO.out.1 k hk))
    obtain ⟨A3, c3, rfl⟩ := Kd.R_slice hR3
    rw [hle] at hR3
    have HR3 := Aside0.mk hR3
    have HB3 := Aside0.mk hB3
    have HK3 := Aside0.mk hK3
    have hc3 := (Kd.R_reads' hR3).2.1
    clear hown3 hg3 hat3 hR3 hB3 hK3 hok3 hW2 hb2 hs2 hv2 ho2 hown hlt
    rw [hle]
    by_cases hm : a2 < ((l0.length + 1 : Nat) : Int)
    · rw [if_pos hm] at h
      split at h
      case isFalse => cases h
      rename_i hm0
      cases h
      have t1 : decide (a2 < ((l0.length + 1 : Nat) : Int)) = true := decide_eq_true hm
      have t2 : decide (a2 < (l0.length : Int) + 1) = true := decide_eq_true (by omega)
      obtain ⟨i0, hi, hz0, hz1, hz2⟩ := info_parts infoC
      have hcut := cut_to (P := Try.prog) 22 3 .i64 Try.underlying22 hi A3 (l0.length + 1) c3 a2 hm0 (by omega) hc3
      clear hi hz0 hz1 hz2
      go_wp2
      go_ret
      refine ⟨_, rfl, Kd.R_take HR3.out (by rw [hle]; omega), HB3.out, HK3.out⟩
    · rw [if_neg hm] at h
      cases h
      have t1 : decide (a2 < ((l0.length + 1 : Nat) : Int)) = false := decide_eq_false hm
      have t2 : decide (a2 < (l0.length : Int) + 1) = false := decide_eq_false (by omega)
      go_wp2
      go_ret
      exact ⟨_, rfl, HR3.out, HB3.out, HK3.out⟩
end Go.Proofs.Ythblifjeecdhcaa.Hand
