/- The contract of network.Delays: what the Go code returns for any fate. No further condition. -/
import Derived.Test.YtkfplnbofgiknaaProg
import Derived.Test.YtkfplnbofgiknaaSeq
import Derived.Test.YtkfplnbofgiknaaWMore
import Derived.RangeFuncBox
import Derived.Shelf.Abstract
import Derived.WalkKit
import Derived.OwnWalkIn
import Derived.TacticsInMore
import Derived.LoopNIn
import Derived.LoopIn
import Derived.StillTailTactics
namespace Go.Proofs.Ytkfplnbofgiknaa.Hand
open Go.RowKit Go.Shelf Go.Proofs.YtkfplnbofgiknaaW.PrintWords Go.Proofs.YtkfplnbofgiknaaW.PrintMore Go.Proofs.Ytkfplnbofgiknaa.Seq
attribute [local go_sem] Oper.semAt_some
set_option linter.unusedVariables false
set_option linter.unusedSimpArgs false

/-- Box b keeps what it holds. -/
def KeepBox (b t : Nat) (W W' : World) : Prop := ∀ v, Boxed W b t v → Boxed W' b t v
theorem keepBox_t {b t : Nat} {A B C : World} (h : KeepBox b t A B) (k : KeepBox b t B C) : KeepBox b t A C := fun v hv => k v (h v hv)
theorem keepBox_b {b t : Nat} {n : Nat} (W : World) (l : Nat) (o o' : Obj) (_ : n ≤ l) (hl : W.heap[l]? = some o) (ho : o.isCells = false) (_ : o.isWalk = false) : KeepBox b t W (W.putObj l o') :=
  fun _ hv => hv.kept (grownBy_putObj' W l o') (fun e => by cases e; rw [show W.heap[b]? = _ from hv] at hl; cases hl; cases ho)
theorem box_kept {Bnd : Nat} {X Y : World} {row : Option Nat} {b t : Nat} {v : Value} (h : Boxed X b t v) (hg : X.grownBy Y row) (hr : ∀ r, row = some r → Bnd ≤ r ∧ ∃ o : Obj, X.heap[r]? = some o ∧ o.isCells = false) : Boxed Y b t v :=
  h.kept hg (fun e => by
    obtain ⟨_, o, ho, hc⟩ := hr b e.symm
    rw [show X.heap[b]? = _ from h] at ho
    cases ho; cases hc)
theorem below_kept {Bnd n₀ : Nat} {w X Y : World} {row : Option Nat} (h : Below n₀ w X) (hn : n₀ ≤ w.heap.size) (hB : n₀ ≤ Bnd) (hg : X.grownBy Y row) (hr : ∀ r, row = some r → Bnd ≤ r ∧ ∃ o : Obj, X.heap[r]? = some o ∧ o.isCells = false) : Below n₀ w Y :=
  h.grown hg (Nat.le_trans hn h.size) (fun k e => Nat.le_trans hB (hr k e).1)

/-- How late a packet with a fate may be, and after how many ticks its copies arrive. -/
def lateL (a : Int) : Int := wrap64 (1 + Int.tmod (wrap64 (Int.tdiv a 4)) 8)
def dlL (a : Int) : List Int := if a < 0 then [] else if Int.tmod a 4 = 1 then [1] else if Int.tmod a 4 = 2 then [lateL a] else if Int.tmod a 4 = 3 then [1, lateL a] else []
theorem dlL_len (a : Int) : (dlL a).length ≤ 2 := by
  unfold dlL
  repeat' split
  all_goals simp
def network_Delays.f (a0 : Int) : Option (List Int) := some (dlL a0)

set_option maxRecDepth 100000 in
set_option maxHeartbeats 4000000 in
theorem delays_seq (n : Nat) (hn : 1 ≤ n) (b : Nat) (a : Int) (w : World) (hbx : Boxed w b 3 (.int .i64 a)) :
    SeqL Fence.wide n Try.prog 41 #[.pointer (some ⟨b, 0, none⟩)] (fun k => #[.int .i64 ((dlL a).getD k 0)]) (dlL a).length (KeepBox b 3) w := by
  intro l J Jx W hW hJ hJx hY h0
  have hbW : Boxed W b 3 (.int .i64 a) := (hW.block b hbx.lt).trans hbx
  have hc := hbW.cell
  by_cases h1 : a < 0
  · have t1 : decide (a < 0) = true := decide_eq_true h1
    have e : dlL a = [] := if_pos h1
    rw [e] at hY ⊢
    refine callsIn_of_wp Try.func41 rfl trivial ?_ rfl
    simp only [Try.ntmps41, List.size_toArray, List.length_cons, List.length_nil, Nat.reduceAdd, Nat.reduceSub, Array.replicate_succ, Array.replicate_zero, List.push_toArray, List.append_toArray, List.nil_append, List.cons_append]
    gi_wp2
    refine bodyPost_ret (results_none rfl _ _ _) rfl ?_
    exact ⟨⟨_, rfl⟩, .inl h0⟩
  · have t1 : decide (a < 0) = false := decide_eq_false h1
    have h2 : 0 ≤ a := by omega
    have hq : Int.tmod a 4 = 0 ∨ Int.tmod a 4 = 1 ∨ Int.tmod a 4 = 2 ∨ Int.tmod a 4 = 3 := by
      rw [Int.tmod_eq_emod_of_nonneg h2]; omega
    clear h2
    rcases hq with hm | hm | hm | hm
    · have e : dlL a = [] := by unfold dlL; rw [if_neg h1, if_neg (by omega), if_neg (by omega), if_neg (by omega)]
      rw [e] at hY ⊢
      clear e
      refine callsIn_of_wp Try.func41 rfl trivial ?_ rfl
      simp only [Try.ntmps41, List.size_toArray, List.length_cons, List.length_nil, Nat.reduceAdd, Nat.reduceSub, Array.replicate_succ, Array.replicate_zero, List.push_toArray, List.append_toArray, List.nil_append, List.cons_append]
      gi_wp2
      go_end0
      exact ⟨⟨_, rfl⟩, .inl h0⟩
    · have e : dlL a = [1] := by unfold dlL; rw [if_neg h1, if_pos hm]
      rw [e] at hY ⊢
      clear e
      refine callsIn_of_wp Try.func41 rfl trivial ?_ rfl
      simp only [Try.ntmps41, List.size_toArray, List.length_cons, List.length_nil, Nat.reduceAdd, Nat.reduceSub, Array.replicate_succ, Array.replicate_zero, List.push_toArray, List.append_toArray, List.nil_append, List.cons_append]
      obtain ⟨fn, tmps, assign, body, hy, hR⟩ := hY 0 W (by simp) h0
      simp only [List.getD_cons_zero, List.getD_cons_succ, lateL] at hy
      gi_wp2
      refine hR.mono ?_
      rintro e W3 (⟨rfl, hJ3, hk3⟩ | ⟨rfl, hJx3⟩)
      · gi_wp2
        go_end0
        exact ⟨⟨_, rfl⟩, .inl hJ3⟩
      · gi_wp2
        go_end0
        exact ⟨⟨_, rfl⟩, .inr ⟨1, by simp, hJx3⟩⟩
    · have e : dlL a = [lateL a] := by unfold dlL; rw [if_neg h1, if_neg (by omega), if_pos hm]
      rw [e] at hY ⊢
      clear e
      refine callsIn_of_wp Try.func41 rfl trivial ?_ rfl
      simp only [Try.ntmps41, List.size_toArray, List.length_cons, List.length_nil, Nat.reduceAdd, Nat.reduceSub, Array.replicate_succ, Array.replicate_zero, List.push_toArray, List.append_toArray, List.nil_append, List.cons_append]
      obtain ⟨fn, tmps, assign, body, hy, hR⟩ := hY 0 W (by simp) h0
      simp only [List.getD_cons_zero, List.getD_cons_succ, lateL] at hy
      gi_wp2
      refine hR.mono ?_
      rintro e W3 (⟨rfl, hJ3, hk3⟩ | ⟨rfl, hJx3⟩)
      · gi_wp2
        go_end0
        exact ⟨⟨_, rfl⟩, .inl hJ3⟩
      · gi_wp2
        go_end0
        exact ⟨⟨_, rfl⟩, .inr ⟨1, by simp, hJx3⟩⟩
    · have e : dlL a = [1, lateL a] := by unfold dlL; rw [if_neg h1, if_neg (by omega), if_neg (by omega), if_pos hm]
      rw [e] at hY ⊢
      clear e
      refine callsIn_of_wp Try.func41 rfl trivial ?_ rfl
      simp only [Try.ntmps41, List.size_toArray, List.length_cons, List.length_nil, Nat.reduceAdd, Nat.reduceSub, Array.replicate_succ, Array.replicate_zero, List.push_toArray, List.append_toArray, List.nil_append, List.cons_append]
      obtain ⟨fn, tmps, assign, body, hy, hR⟩ := hY 0 W (by simp) h0
      simp only [List.getD_cons_zero, List.getD_cons_succ, lateL] at hy
      gi_wp2
      refine hR.mono ?_
      rintro e W3 (⟨rfl, hJ3, hk3⟩ | ⟨rfl, hJx3⟩)
      · clear hy hR
        obtain ⟨fn, tmps, assign, body, hy, hR⟩ := hY 1 W3 (by simp) hJ3
        simp only [List.getD_cons_zero, List.getD_cons_succ, lateL] at hy
        have hc3 := (hk3 _ hbW).cell
        gi_wp2
        refine hR.mono ?_
        rintro e W4 (⟨rfl, hJ4, hk4⟩ | ⟨rfl, hJx4⟩)
        · gi_wp2
          go_end0
          exact ⟨⟨_, rfl⟩, .inl hJ4⟩
        · gi_wp2
          go_end0
          exact ⟨⟨_, rfl⟩, .inr ⟨2, by simp, hJx4⟩⟩
      · gi_wp2
        go_end0
        exact ⟨⟨_, rfl⟩, .inr ⟨1, by simp, hJx3⟩⟩

set_option maxHeartbeats 1000000 in
theorem delays_in (n : Nat) (a : Int) (w : World) :
    CallsIn Fence.wide n Try.prog 34 #[.int .i64 a] w fun e w' => e = .returned (.func (.func 41) #[] #[.pointer (some ⟨w.heap.size, 0, none⟩)]) ∧ w' = w.alloc (.cells #[.int .i64 a] 3) := by
  refine callsIn_of_wp Try.func34 rfl trivial ?_ rfl
  simp only [Try.ntmps34, List.size_toArray, List.length_cons, List.length_nil, Nat.reduceAdd, Nat.reduceSub, Array.replicate_succ, Array.replicate_zero, List.push_toArray, List.append_toArray, List.nil_append, List.cons_append]
  gi_wp2
  go_ret
  exact ⟨rfl, rfl⟩

theorem infoI : (Try.prog.info? 3).map (fun i => (i.zero, i.size, i.bytes)) = some (some (.int .i64 0), 1, 8) := by kernel_rfl
theorem take_get {L : List Int} {k : Nat} (h : k < L.length) : L.take (k + 1) = L.take k ++ [L.getD k 0] := by
  rw [List.take_succ_eq_append_getElem h]
  simp [List.getD, List.getElem?_eq_getElem h]

set_option maxRecDepth 100000 in
set_option maxHeartbeats 8000000 in
/-- slices.AppendSeq at the nil slice and the iterator of a fate. -/
theorem appendSeq_delays (a : Int) (b : Nat) (w : World) (hbx : Boxed w b 3 (.int .i64 a)) :
    Calls Try.prog 42 #[.slice none 0 0, .func (.func 41) #[] #[.pointer (some ⟨b, 0, none⟩)]] w fun e w' => ∃ v : Value, e = .returned v ∧ Kd.R (Kd.int .i64) 3 w' w.heap.size (fun _ => True) v (dlL a) ∧ Below w.heap.size w w' := by
  obtain ⟨i0, hi, hz0, hz1, hz2⟩ := info_parts infoI
  have hlen := dlL_len a
  have hbw := hbx.lt
  refine (callsIn_wide (n := 4)).1 ?_
  refine callsIn_of_wp_marks Try.func42 rfl trivial ?_ rfl
  simp only [Try.ntmps42, List.size_toArray, List.length_cons, List.length_nil, Nat.reduceAdd, Nat.reduceSub, Array.replicate_succ, Array.replicate_zero, List.push_toArray, List.append_toArray, List.nil_append, List.cons_append]
  gi_wp2
  have b1 := Boxed.new w 22 (.slice none 0 0)
  have hB0 : Below w.heap.size w (w.alloc (.cells #[.slice none 0 0] 22)) := (Below.refl _ w).alloc (Nat.le_refl _) _
  refine rangeFunc_L (F := Fence.wide) rfl (by omega) (gf := 41) (lb := #[.pointer (some ⟨b, 0, none⟩)]) rfl trivial (enters_of Try.func41 (by kernel_rfl) rfl)
    (delays_seq (4 - 1) (by omega) b a w hbx) keepBox_t (fun W l o o' hl ho h1 h2 => keepBox_b W l o o' hl ho h1 h2) hB0 (fun _ => rfl)
    (fun k W => (∃ v, Boxed W w.heap.size 22 v ∧ W.ownsRow w.heap.size 3 1 v ((dlL a).take k).length (((dlL a).take k).map (Value.int .i64))) ∧ Boxed W b 3 (.int .i64 a) ∧ Below w.heap.size w W)
    (fun _ _ _ => False)
    (fun s X Y row hs hg hr => by
      obtain ⟨hv, hf, hb⟩ := hs
      exact ⟨Own.from (holdsRow_own w.heap.size w.heap.size 22 3 1 (fun k => ((dlL a).take k).length) (fun k => ((dlL a).take k).map (Value.int .i64)) (fun _ _ => True)) 0 s X Y row (by obtain ⟨v, h1, h2⟩ := hv; exact ⟨v, h1, h2, trivial⟩) hg (fun r e => ⟨Nat.zero_le _, (hr r e).2⟩) |>.elim (fun v h => ⟨v, h.1, h.2.1⟩), box_kept hf hg hr, below_kept hb (Nat.le_refl _) (by simp) hg hr⟩)
    (fun _ _ _ _ _ hs _ _ => hs)
    ⟨⟨_, b1, by simpa using World.ownsRow_nil _ _ _ _⟩, hbx.alloc _, hB0⟩
    (fun k => { tmps := #[.slice none 0 0, .func (.func 41) #[] #[.pointer (some ⟨b, 0, none⟩)], .pointer (some ⟨w.heap.size, 0, none⟩), undef, .slice none 0 0, .int .i64 ((dlL a).getD k 0), .func (.func 41) #[] #[.pointer (some ⟨b, 0, none⟩)], .int .i64 ((dlL a).getD k 0), undef, undef, undef, undef, undef], defers := [] }) ?assign ?body ?done ?stop
  case assign =>
    intro l k W K hk hK
    generalize (dlL a).getD k 0 = x at *
    gi_wp2
    exact hK
  case body =>
    rintro l k W hk ⟨⟨v, hv, hrow⟩, hf, hb⟩
    have hstep := take_get hk
    have hkl : ((dlL a).take k).length ≤ 2 := by rw [List.length_take]; omega
    generalize (dlL a).getD k 0 = x at *
    generalize (dlL a).take k = T at *
    have hc1 := hv.cell
    have hf1 := hv.frozen
    have hmx : maxLen = 9223372036854775807 := rfl
    have hw0 := hb.size
    clear hk hlen
    gi_wp2_with (gi_at_builtin; refine wpListIn_append_own _ rfl _ _ 22 rfl w.heap.size 3 i0 (.int .i64 0) 1 8 Try.underlying22 hi hz0 hz1 hz2 rfl (by decide) _ _ _ rfl (hrow.alloc _) ⟨W.heap.size, 0, none⟩ 1 1 [.int .i64 x] rfl rfl (cell_one_new _ _ _) (by simp [Value.oneCell']) (by omega) (by omega) (by simp; omega) ?_; intro v' w1 hown' hgrow _; obtain ⟨g', cap', rfl⟩ := ownsRow_succ hown'; obtain ⟨hv1', hv2, hr2, hk2, hb2⟩ := hv.appended (by decide) hrow hb.size (by omega) hown' hgrow; have hc1' := hv1'.cell; have hf1' := hv1'.frozen)
    have far : (w1.setCell ⟨w.heap.size, 0, none⟩ (.slice (some ⟨g', 0, none⟩) (T.length + 1) cap')).heap[b]? = W.heap[b]? := hb2.block b hbw
    exact ⟨hk2.from _, fun u hu => far.trans hu, ⟨_, hv2, by rw [hstep]; simpa using hr2⟩, far.trans hf, hb.trans hb2⟩
  case done =>
    rintro D W hD ⟨⟨v, hv, hrow⟩, hf, hb⟩ hK
    have hc := hv.cell
    rw [List.take_length] at hrow
    gi_wp2
    refine ⟨by simp, .inl ⟨_, _, rfl, run_takeDeferred hK, ?_⟩⟩
    exact ⟨_, results_tmp rfl _ _ _, v, rfl, Kd.R_of_own (ownsRow_putObj hrow _ hK rfl) (fun _ _ => trivial), below_kept (Bnd := D) hb (Nat.le_refl _) (by simp at hD; omega) (grownBy_putObj' W D (.deferred none)) (fun r e => by cases e; exact ⟨Nat.le_refl _, _, hK, rfl⟩)⟩
  case stop =>
    rintro D c k W _ _ h _
    exact h.elim

set_option maxHeartbeats 1000000 in
theorem collect_delays (a : Int) (b : Nat) (w : World) (hbx : Boxed w b 3 (.int .i64 a)) :
    Calls Try.prog 36 #[.func (.func 41) #[] #[.pointer (some ⟨b, 0, none⟩)]] w fun e w' => ∃ v : Value, e = .returned v ∧ Kd.R (Kd.int .i64) 3 w' w.heap.size (fun _ => True) v (dlL a) ∧ Below w.heap.size w w' := by
  go_enter Try.func36, Try.ntmps36
  go_wp2_with (go_at_call 42; refine (appendSeq_delays a b _ hbx).mono ?_; rintro e w' ⟨v, rfl, hR, hB⟩)
  go_ret
  exact ⟨v, rfl, hR, hB⟩
theorem delays_calls (a : Int) (w : World) :
    Calls Try.prog 34 #[.int .i64 a] w fun e w' => e = .returned (.func (.func 41) #[] #[.pointer (some ⟨w.heap.size, 0, none⟩)]) ∧ w' = w.alloc (.cells #[.int .i64 a] 3) :=
  (callsIn_wide (n := 4)).1 (delays_in 4 a w)
set_option maxHeartbeats 1000000 in
theorem network_Delays.calls (a0 : Int) (r : List Int) (w : World) (h : network_Delays.f a0 = some r) :
    Calls Try.prog 18 #[.int .i64 a0] w fun e w' => ∃ v0_ : Value, e = .returned v0_ ∧ Kd.R (Kd.int .i64) 3 w' w.heap.size (fun _ => True) v0_ r ∧ Below w.heap.size w w' := by
  cases h
  have hb : Below w.heap.size w (w.alloc (.cells #[.int .i64 a0] 3)) := (Below.refl _ w).alloc (Nat.le_refl _) _
  go_enter Try.func18, Try.ntmps18
  go_wp2_with (first | (go_at_call 34; refine (delays_calls a0 _).mono ?_; rintro e w' ⟨rfl, rfl⟩) | (go_at_call 36; refine (collect_delays a0 w.heap.size _ (Boxed.new w _ _)).mono ?_; rintro e w' ⟨v, rfl, hR, hB⟩))
  go_ret
  exact ⟨v, rfl, Kd.R_lower hR (by simp), hb.trans (hB.mono (by simp))⟩
end Go.Proofs.Ytkfplnbofgiknaa.Hand
