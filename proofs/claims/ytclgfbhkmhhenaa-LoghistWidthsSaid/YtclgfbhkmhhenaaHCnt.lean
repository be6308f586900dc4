/- What the iterator of loghist.counted yields: the buckets of a histogram, each with the number of values up to it. No further condition. -/
import Derived.Test.YtclgfbhkmhhenaaSeq
import Derived.Test.YtclgfbhkmhhenaaWMore
import Derived.Test.YtclgfbhkmhhenaaAA
import Derived.RangeFuncBox
import Derived.Shelf.Abstract
import Derived.WalkKit
import Derived.OwnWalkIn
import Derived.TacticsInMore
import Derived.LoopNIn
import Derived.LoopIn
namespace Go.Proofs.Ytclgfbhkmhhenaa.Hand
open Go.RowKit Go.Shelf Go.Proofs.YtclgfbhkmhhenaaW.PrintWords Go.Proofs.YtclgfbhkmhhenaaW.PrintMore Go.Proofs.Ytclgfbhkmhhenaa.Seq Go.Proofs.Ytclgfbhkmhhenaa.A
attribute [local go_sem] Oper.semAt_some
set_option linter.unusedVariables false
set_option linter.unusedSimpArgs false
abbrev SB := S66
abbrev kB : Kd SB := k66
theorem heapB : Kd.Heap kB := Kd.heap_iso _ (Kd.heap_pair (Kd.heap_int _) (Kd.heap_int _))
/-- The number of values in the first k buckets. -/
def upF (l : List SB) : Nat → Int
  | 0 => 0
  | k + 1 => wrap64 (upF l k + (rd_T66 l (k : Int)).f1)
def encB (l : List SB) (k : Nat) : Array Value := #[.agg #[.int .i64 (rd_T66 l (k : Int)).f0, .int .i64 (rd_T66 l (k : Int)).f1], .int .i64 (upF l (k + 1))]
def KeptAt (S : Nat → Prop) (W W' : World) : Prop := ∀ k, S k → W'.heap[k]? = W.heap[k]?
theorem keptAt_t {S : Nat → Prop} {A B C : World} (h : KeptAt S A B) (k : KeptAt S B C) : KeptAt S A C := fun i hi => (k i hi).trans (h i hi)
/-- What lay in the world w0 lies in W as it was. -/
def LikeAt (W w0 : World) : Prop := ∀ k, k < w0.heap.size → W.heap[k]? = w0.heap[k]?
theorem LikeAt.row {W w0 : World} (h : LikeAt W w0) {A : Option Addr} {n : Nat} {l : List SB} (hC : Kd.C kB w0 A n l) : Kd.C kB W A n l := heapB.C (fun k hk => h k hk) hC
theorem LikeAt.kept {W W' w0 : World} (h : LikeAt W w0) (k : KeptAt (· < w0.heap.size) W W') : LikeAt W' w0 := fun i hi => (k i hi).trans (h i hi)
theorem LikeAt.lt {W w0 : World} (h : LikeAt W w0) : w0.heap.size ≤ W.heap.size := by
  rcases Nat.lt_or_ge W.heap.size w0.heap.size with hl | hl
  · have := h W.heap.size hl
    rw [Array.getElem?_eq_getElem hl, Array.getElem?_eq_none (Nat.le_refl _)] at this
    cases this
  · exact hl
theorem LikeAt.alloc {W w0 : World} (h : LikeAt W w0) (o : Obj) : LikeAt (W.alloc o) w0 := fun k hk => (Below.heap_alloc _ _ _ (Nat.lt_of_lt_of_le hk h.lt)).trans (h k hk)
theorem LikeAt.below {W W' w0 : World} (h : LikeAt W w0) (hb : Below W.heap.size W W') : LikeAt W' w0 := fun k hk => (hb.block k (Nat.lt_of_lt_of_le hk h.lt)).trans (h k hk)
theorem LikeAt.of_below {w0 W : World} (hb : Below w0.heap.size w0 W) : LikeAt W w0 := fun k hk => hb.block k hk
theorem abides_alloc {B : Nat} {J : Nat → World → Prop} (h : AbidesFrom B J) {k : Nat} {W : World} (o : Obj) (hj : J k W) : J k (W.alloc o) := h k W _ none hj (World.grownBy_alloc W o none) (fun r e => by cases e)
set_option maxRecDepth 100000 in
set_option maxHeartbeats 4000000 in
theorem counted_seq (n : Nat) (hn : 1 ≤ n) (w0 : World) (b : Nat) (v0 v1 v2 v3 v4 : Value) (A : Option Addr) (c : Nat) (l : List SB) (hC : Kd.C kB w0 A l.length l) (w : World)
    (hbox : w.heap[b]? = some (.cells #[v0, v1, v2, v3, v4, .slice A l.length c] 29 (0, 0))) (hw : LikeAt w w0) :
    SeqL Fence.wide n Try.prog 73 #[.pointer (some ⟨b, 0, none⟩)] (encB l) l.length (KeptAt (· < w0.heap.size)) w := by
  intro lp J Jx W hW hJ hJx hY h0
  have hm := hC.2.1
  have q5 : W.cell? ⟨b, 5, none⟩ = some (.slice A l.length c) := (blk_cell ((hW.block b (Array.getElem?_eq_some_iff.1 hbox).1).trans hbox) 5).trans rfl
  have hL : LikeAt W w0 := hw.below hW
  refine callsIn_of_wp Try.func73 rfl trivial ?_ rfl
  simp only [Try.ntmps73, List.size_toArray, List.length_cons, List.length_nil, Nat.reduceAdd, Nat.reduceSub, Array.replicate_succ, Array.replicate_zero, List.push_toArray, List.append_toArray, List.nil_append, List.cons_append]
  gi_wp2
  gi_loopw [3, 9] (fun v3 v9 wr => ∃ i : Nat, i ≤ l.length ∧ v3 = .int .i64 (upF l i) ∧ v9 = .int .i64 i ∧ J i wr ∧ Aside0 (LikeAt wr w0))
    (fun _ v9 _ => l.length - (intOf v9).toNat)
  case atStart => exact ⟨0, Nat.zero_le _, rfl, rfl, h0, ⟨hL⟩⟩
  case round =>
    obtain ⟨i, hi, rfl, rfl, hJs, HL⟩ := hrel
    have HJS := Aside0.mk hJs
    clear hJs
    by_cases ci : i < l.length
    · have ti : decide (i < l.length) = true := decide_eq_true ci
      obtain ⟨ad, rfl, r0, r1⟩ := at_T66 (HL.out.row hC) (i : Int) (by omega) (by omega)
      simp only [Int.toNat_natCast] at r0 r1
      have HE : Aside0 (encB l i = #[.agg #[.int .i64 (rd_T66 l (i : Int)).f0, .int .i64 (rd_T66 l (i : Int)).f1], .int .i64 (wrap64 (upF l i + (rd_T66 l (i : Int)).f1))] ∧ upF l (i + 1) = wrap64 (upF l i + (rd_T66 l (i : Int)).f1)) := ⟨rfl, rfl⟩
      have hJn := abides_alloc hJ (.cells #[.int .i64 (rd_T66 l (i : Int)).f0, .int .i64 (rd_T66 l (i : Int)).f1] 66) HJS.out
      have HLn := Aside0.mk (HL.out.alloc (.cells #[.int .i64 (rd_T66 l (i : Int)).f0, .int .i64 (rd_T66 l (i : Int)).f1] 66))
      obtain ⟨fn, tmps, assign, body, hy, hR⟩ := hY i _ ci hJn
      rw [HE.out.1] at hy
      have HU := Aside0.mk HE.out.2
      have HJn := Aside0.mk hJn
      clear HE hJn HJS
      generalize upF l i = u at *
      generalize rd_T66 l (i : Int) = x at *
      gi_wp2
      refine hR.mono ?_
      rintro e W3 (⟨rfl, hJ3, hk3⟩ | ⟨rfl, hJx3⟩)
      · gi_wp2
        go_roundw
        case rel => exact ⟨i + 1, by omega, by rw [HU.out], by go_num, hJ3, ⟨HLn.out.kept hk3⟩⟩
        case measure => simp [intOf]; omega
      · gi_wp2
        refine bodyPost_ret (results_none rfl _ _ _) rfl ?_
        exact ⟨⟨_, rfl⟩, .inr ⟨i + 1, by omega, hJx3⟩⟩
    · have ti : decide (i < l.length) = false := decide_eq_false ci
      obtain rfl : i = l.length := by omega
      gi_wp2
      first | (refine bodyPost_end (results_none rfl _ _ _) rfl ?_) | (refine bodyPost_ret (results_none rfl _ _ _) rfl ?_)
      exact ⟨⟨_, rfl⟩, .inl HJS.out⟩
set_option maxHeartbeats 1000000 in
theorem counted_in (n : Nat) (v0 v1 v2 v3 v4 v5 : Value) (w : World) :
    CallsIn Fence.wide n Try.prog 53 #[.agg #[v0, v1, v2, v3, v4, v5]] w fun e w' => e = .returned (.func (.func 73) #[] #[.pointer (some ⟨w.heap.size, 0, none⟩)]) ∧ w' = w.alloc (.cells #[v0, v1, v2, v3, v4, v5] 29) := by
  refine callsIn_of_wp Try.func53 rfl trivial ?_ rfl
  simp only [Try.ntmps53, List.size_toArray, List.length_cons, List.length_nil, Nat.reduceAdd, Nat.reduceSub, Array.replicate_succ, Array.replicate_zero, List.push_toArray, List.append_toArray, List.nil_append, List.cons_append]
  gi_wp2
  go_ret
  exact ⟨rfl, rfl⟩
end Go.Proofs.Ytclgfbhkmhhenaa.Hand
