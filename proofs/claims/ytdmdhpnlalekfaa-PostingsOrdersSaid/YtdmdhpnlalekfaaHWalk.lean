/- The contracts of postings.combined at the functions that the code hands it: what the Go code returns for any two lists. No further condition. -/
import Derived.Test.YtdmdhpnlalekfaaProg
import Derived.Test.YtdmdhpnlalekfaaSeq
import Derived.Test.YtdmdhpnlalekfaaWMore
import Derived.RangeFuncBox
import Derived.Shelf.Abstract
import Derived.WalkKit
import Derived.OwnWalkIn
import Derived.TacticsInMore
import Derived.LoopNIn
import Derived.LoopIn
import Derived.StillTailTactics
namespace Go.Proofs.Ytdmdhpnlalekfaa.Hand
open Go.RowKit Go.Shelf Go.Proofs.YtdmdhpnlalekfaaW.PrintWords Go.Proofs.YtdmdhpnlalekfaaW.PrintMore Go.Proofs.Ytdmdhpnlalekfaa.Seq
attribute [local go_sem] Oper.semAt_some

/-- The numbers of two lists, merged, each with the lists that have it. -/
def walkF : Nat → List Int → List Int → List (Int × Bool × Bool)
  | 0, _, _ => []
  | _ + 1, [], [] => []
  | d + 1, [], y :: b => (y, false, true) :: walkF d [] b
  | d + 1, x :: a, [] => (x, true, false) :: walkF d a []
  | d + 1, x :: a, y :: b => if x < y then (x, true, false) :: walkF d a (y :: b) else if y < x then (y, false, true) :: walkF d (x :: a) b else (x, true, true) :: walkF d a b
def walkL (a b : List Int) : List (Int × Bool × Bool) := walkF (a.length + b.length) a b
theorem walkF_nil : ∀ d, walkF d [] [] = []
  | 0 => rfl
  | _ + 1 => rfl
theorem walkF_more : ∀ (d : Nat) (a b : List Int), a.length + b.length ≤ d → walkF (d + 1) a b = walkF d a b
  | 0, a, b, h => by
    obtain rfl : a = [] := List.eq_nil_of_length_eq_zero (by omega)
    obtain rfl : b = [] := List.eq_nil_of_length_eq_zero (by omega)
    rfl
  | d + 1, [], [], _ => rfl
  | d + 1, [], y :: b, h => by simp only [walkF]; rw [walkF_more d [] b (by simp at h ⊢; omega)]
  | d + 1, x :: a, [], h => by simp only [walkF]; rw [walkF_more d a [] (by simp at h ⊢; omega)]
  | d + 1, x :: a, y :: b, h => by
    simp only [List.length_cons] at h
    rw [walkF, walkF]
    rw [walkF_more d a (y :: b) (by simp; omega), walkF_more d (x :: a) b (by simp; omega), walkF_more d a b (by omega)]
theorem walkF_le : ∀ (d e : Nat) (a b : List Int), a.length + b.length ≤ d → walkF (d + e) a b = walkF d a b
  | d, 0, _, _, _ => rfl
  | d, e + 1, a, b, h => by rw [← Nat.add_assoc, walkF_more (d + e) a b (by omega), walkF_le d e a b h]
theorem walkL_fuel {d : Nat} {a b : List Int} (h : a.length + b.length ≤ d) : walkF d a b = walkL a b := by
  obtain ⟨e, rfl⟩ : ∃ e, d = a.length + b.length + e := ⟨d - (a.length + b.length), by omega⟩
  exact walkF_le _ e a b (Nat.le_refl _)
theorem walkL_r (y : Int) (b : List Int) : walkL [] (y :: b) = (y, false, true) :: walkL [] b := by
  rw [walkL, show ([] : List Int).length + (y :: b).length = b.length + 1 by simp, walkF, walkL_fuel (by simp)]
theorem walkL_l (x : Int) (a : List Int) : walkL (x :: a) [] = (x, true, false) :: walkL a [] := by
  rw [walkL, show (x :: a).length + ([] : List Int).length = a.length + 1 by simp, walkF, walkL_fuel (by simp)]
theorem walkL_lt {x y : Int} (a b : List Int) (h : x < y) : walkL (x :: a) (y :: b) = (x, true, false) :: walkL a (y :: b) := by
  rw [walkL, show (x :: a).length + (y :: b).length = (a.length + b.length + 1) + 1 by simp; omega, walkF, if_pos h, walkL_fuel (by simp; omega)]
theorem walkL_gt {x y : Int} (a b : List Int) (h : y < x) : walkL (x :: a) (y :: b) = (y, false, true) :: walkL (x :: a) b := by
  rw [walkL, show (x :: a).length + (y :: b).length = (a.length + b.length + 1) + 1 by simp; omega, walkF, if_neg (by omega), if_pos h, walkL_fuel (by simp; omega)]
theorem walkL_eq (x : Int) (a b : List Int) : walkL (x :: a) (x :: b) = (x, true, true) :: walkL a b := by
  rw [walkL, show (x :: a).length + (x :: b).length = (a.length + b.length + 1) + 1 by simp; omega, walkF, if_neg (by omega), if_neg (by omega), walkL_fuel (by omega)]
theorem walkL_nil : walkL [] [] = [] := rfl
theorem walkL_len (a b : List Int) : (walkL a b).length ≤ a.length + b.length := by
  have : ∀ d a b, (walkF d a b).length ≤ d := by
    intro d
    induction d with
    | zero => intro a b; simp [walkF]
    | succ d ih =>
      intro a b
      match a, b with
      | [], [] => simp [walkF]
      | [], y :: b => simp only [walkF, List.length_cons]; have := ih [] b; omega
      | x :: a, [] => simp only [walkF, List.length_cons]; have := ih a []; omega
      | x :: a, y :: b =>
        simp only [walkF]
        have h1 := ih a (y :: b)
        have h2 := ih (x :: a) b
        have h3 := ih a b
        split
        · simp only [List.length_cons]; omega
        · split
          · simp only [List.length_cons]; omega
          · simp only [List.length_cons]; omega
  exact this _ a b

/-- What lies in these blocks stays. -/
def KeptAt (S : Nat → Prop) (W W' : World) : Prop := ∀ k, S k → W'.heap[k]? = W.heap[k]?
theorem keptAt_t {S : Nat → Prop} {A B C : World} (h : KeptAt S A B) (k : KeptAt S B C) : KeptAt S A C := fun i hi => (k i hi).trans (h i hi)
def encW (L : List (Int × Bool × Bool)) (k : Nat) : Array Value := #[.int .i64 (L.getD k (0, false, false)).1, .agg #[.bool (L.getD k (0, false, false)).2.1, .bool (L.getD k (0, false, false)).2.2]]
/-- The blocks that the walk reads. -/
def WalkS (n0 b1 b2 : Nat) (k : Nat) : Prop := k < n0 ∨ k = b1 ∨ k = b2
def WalkAt (W : World) (w0 : World) (b1 b2 : Nat) (A0 A1 : Option Addr) (c0 c1 : Nat) (l0 l1 : List Int) : Prop :=
  Boxed W b1 23 (.slice A0 l0.length c0) ∧ Boxed W b2 23 (.slice A1 l1.length c1) ∧ ∀ k, k < w0.heap.size → W.heap[k]? = w0.heap[k]?
theorem WalkAt.move {W W' w0 : World} {b1 b2 : Nat} {A0 A1 : Option Addr} {c0 c1 : Nat} {l0 l1 : List Int} (h : WalkAt W w0 b1 b2 A0 A1 c0 c1 l0 l1) (hk : KeptAt (WalkS w0.heap.size b1 b2) W W') : WalkAt W' w0 b1 b2 A0 A1 c0 c1 l0 l1 :=
  ⟨(hk b1 (.inr (.inl rfl))).trans h.1, (hk b2 (.inr (.inr rfl))).trans h.2.1, fun k hlt => (hk k (.inl hlt)).trans (h.2.2 k hlt)⟩
theorem WalkAt.size {W w0 : World} {b1 b2 : Nat} {A0 A1 : Option Addr} {c0 c1 : Nat} {l0 l1 : List Int} (h : WalkAt W w0 b1 b2 A0 A1 c0 c1 l0 l1) : w0.heap.size ≤ W.heap.size := by
  rcases Nat.eq_zero_or_pos w0.heap.size with h0 | h0
  · omega
  · have := h.2.2 (w0.heap.size - 1) (by omega)
    rw [Array.getElem?_eq_getElem (xs := w0.heap) (by omega)] at this
    have := (Array.getElem?_eq_some_iff.1 this).1
    omega
theorem WalkAt.alloc {W w0 : World} {b1 b2 : Nat} {A0 A1 : Option Addr} {c0 c1 : Nat} {l0 l1 : List Int} (h : WalkAt W w0 b1 b2 A0 A1 c0 c1 l0 l1) (o : Obj) : WalkAt (W.alloc o) w0 b1 b2 A0 A1 c0 c1 l0 l1 :=
  ⟨h.1.alloc o, h.2.1.alloc o, fun k hk => ((below_alloc (Below.refl _ W) o).block k (by have := h.size; omega)).trans (h.2.2 k hk)⟩
theorem WalkAt.row0 {W w0 : World} {b1 b2 : Nat} {A0 A1 : Option Addr} {c0 c1 : Nat} {l0 l1 : List Int} (h : WalkAt W w0 b1 b2 A0 A1 c0 c1 l0 l1) {A : Option Addr} {l : List Int} (hC : Kd.C (Kd.int .i64) w0 A l.length l) : Kd.C (Kd.int .i64) W A l.length l :=
  (Kd.heap_int .i64).C (fun k hk => h.2.2 k hk) hC

theorem drop_rd {l : List Int} {i : Nat} (h : i < l.length) : l.drop i = rd l (i : Int) :: l.drop (i + 1) := by
  rw [List.drop_eq_getElem_cons h]
  congr 1
  simp [rd, List.getD, List.getElem?_eq_getElem h]
theorem enc_at {L : List (Int × Bool × Bool)} {k : Nat} {x : Int} {p q : Bool} {rest : List (Int × Bool × Bool)} (h : L.drop k = (x, p, q) :: rest) : k < L.length ∧ encW L k = #[.int .i64 x, .agg #[.bool p, .bool q]] ∧ L.drop (k + 1) = rest := by
  have hk : k < L.length := by
    rcases Nat.lt_or_ge k L.length with h' | h'
    · exact h'
    · rw [List.drop_eq_nil_of_le h'] at h; cases h
  rw [List.drop_eq_getElem_cons hk] at h
  injection h with h1 h2
  refine ⟨hk, ?_, h2⟩
  simp [encW, List.getD, List.getElem?_eq_getElem hk, h1]
theorem grown_alloc (W : World) (o : Obj) : W.grownBy (W.alloc o) none := ⟨rfl, rfl, rfl, by simp, fun k hk _ => (below_alloc (Below.refl _ W) o).block k hk⟩
theorem grown_drew (W : World) : W.grownBy W.drew none := ⟨rfl, rfl, rfl, Nat.le_refl _, fun _ _ _ => rfl⟩
theorem abides_alloc {B : Nat} {J : Nat → World → Prop} (h : AbidesFrom B J) {k : Nat} {W : World} (o : Obj) (hj : J k W) : J k (W.alloc o) := h k W _ none hj (grown_alloc W o) (fun r e => by cases e)
theorem abides_drew {B : Nat} {J : Nat → World → Prop} (h : AbidesFrom B J) {k : Nat} {W : World} (hj : J k W) : J k W.drew := h k W _ none hj (grown_drew W) (fun r e => by cases e)

set_option maxRecDepth 100000 in
set_option maxHeartbeats 8000000 in
theorem walk_seq (n : Nat) (hn : 1 ≤ n) (w0 : World) (b1 b2 : Nat) (A0 A1 : Option Addr) (c0 c1 : Nat) (l0 l1 : List Int) (hC0 : Kd.C (Kd.int .i64) w0 A0 l0.length l0) (hC1 : Kd.C (Kd.int .i64) w0 A1 l1.length l1) (w : World) (hw : WalkAt w w0 b1 b2 A0 A1 c0 c1 l0 l1) :
    SeqL Fence.wide n Try.prog 67 #[.pointer (some ⟨b1, 0, none⟩), .pointer (some ⟨b2, 0, none⟩)] (encW (walkL l0 l1)) (walkL l0 l1).length (KeptAt (WalkS w0.heap.size b1 b2)) w := by
  intro l J Jx W hW hJ hJx hY h0
  have hbW : WalkAt W w0 b1 b2 A0 A1 c0 c1 l0 l1 := ⟨(hW.block b1 hw.1.lt).trans hw.1, (hW.block b2 hw.2.1.lt).trans hw.2.1, fun k hk => (hW.block k (by have := hw.size; omega)).trans (hw.2.2 k hk)⟩
  have hm0 := hC0.2.1
  have hm1 := hC1.2.1
  refine callsIn_of_wp Try.func67 rfl trivial ?_ rfl
  simp only [Try.ntmps67, List.size_toArray, List.length_cons, List.length_nil, Nat.reduceAdd, Nat.reduceSub, Array.replicate_succ, Array.replicate_zero, List.push_toArray, List.append_toArray, List.nil_append, List.cons_append]
  gi_wp2
  gi_loopw [4, 5] (fun v4 v5 wr => ∃ i j k : Nat, i ≤ l0.length ∧ j ≤ l1.length ∧ v4 = .int .i64 i ∧ v5 = .int .i64 j ∧ Aside0 (walkL (l0.drop i) (l1.drop j) = (walkL l0 l1).drop k) ∧ k ≤ (walkL l0 l1).length ∧ J k wr ∧ WalkAt wr w0 b1 b2 A0 A1 c0 c1 l0 l1)
    (fun v4 v5 _ => (l0.length - (intOf v4).toNat) + (l1.length - (intOf v5).toNat))
  case atStart => exact ⟨0, 0, 0, Nat.zero_le _, Nat.zero_le _, rfl, rfl, ⟨rfl⟩, Nat.zero_le _, h0, hbW⟩
  case round =>
    obtain ⟨i, j, k, hi, hj, rfl, rfl, HE, hkl, hJs, hbr⟩ := hrel
    have q1 := hbr.1.cell
    have q2 := hbr.2.1.cell
    have lb1 := hbr.1.lt
    have lb2 := hbr.2.1.lt
    by_cases ci : i < l0.length
    · have ti : decide (i < l0.length) = true := decide_eq_true ci
      obtain ⟨ad0, rfl, r0⟩ := Kd.at_int (hbr.row0 hC0) (i : Int) (by omega) (by omega)
      simp only [Int.toNat_natCast] at r0
      have hz0 := World.block_lt_of_cell? _ _ r0
      by_cases cj : j < l1.length
      · have tj : decide (j < l1.length) = true := decide_eq_true cj
        obtain ⟨ad1, rfl, r1⟩ := Kd.at_int (hbr.row0 hC1) (j : Int) (by omega) (by omega)
        simp only [Int.toNat_natCast] at r1
        have hz1 := World.block_lt_of_cell? _ _ r1
        rcases Int.lt_trichotomy (rd l0 i) (rd l1 j) with hlt | heq | hlt
        · -- the left one is less
          have u1 : decide (rd l0 i ≤ rd l1 j) = true := decide_eq_true (by omega)
          have u2 : decide (rd l1 j ≤ rd l0 i) = false := decide_eq_false (by omega)
          gi_wp2
          have hA : WalkAt (wr.alloc (.cells #[.bool true, .bool true] 51)) w0 b1 b2 (some ad0) (some ad1) c0 c1 l0 l1 := hbr.alloc _
          generalize hW1 : wr.alloc (.cells #[.bool true, .bool true] 51) = W1 at hA ⊢
          have v1 := hA.1.cell
          have v2 := hA.2.1.cell
          obtain ⟨_, e0, s0⟩ := Kd.at_int (hA.row0 hC0) (i : Int) (by omega) (by omega)
          obtain ⟨_, e1, s1⟩ := Kd.at_int (hA.row0 hC1) (j : Int) (by omega) (by omega)
          cases e0
          cases e1
          simp only [Int.toNat_natCast] at s0 s1
          refine wpIn_wide.2 ?_
          go_still_tail 19, (by kernel_rfl)
          change wpList _ _ _ _ _ W1.drew
          subst hW1
          clear v1 v2 s0 s1
          go_wp2
          obtain ⟨hk, henc, hrest⟩ := enc_at (k := k) (L := walkL l0 l1) (HE.out.symm.trans (by rw [drop_rd ci, drop_rd cj, walkL_lt _ _ hlt, ← drop_rd cj]))
          obtain ⟨fn, tmps, assign, body, hy, hR⟩ := hY k ((wr.alloc (Obj.cells #[.bool true, .bool false] 51)).drew) hk (abides_drew hJ (abides_alloc hJ _ hJs))
          rw [henc] at hy
          try dsimp only at hy
          gi_wp2
          refine hR.mono ?_
          rintro e W3 (⟨rfl, hJ3, hk3⟩ | ⟨rfl, hJx3⟩)
          · gi_wp2
            go_roundw
            case rel => exact ⟨i + 1, j, k + 1, by omega, by omega, by go_num, by go_num, ⟨hrest.symm⟩, hk, hJ3, (show WalkAt (wr.alloc (Obj.cells #[.bool true, .bool false] 51)).drew w0 b1 b2 (some ad0) (some ad1) c0 c1 l0 l1 from hbr.alloc _).move hk3⟩
            case measure => simp [intOf]; omega
          · gi_wp2
            refine bodyPost_ret (results_none rfl _ _ _) rfl ?_
            exact ⟨⟨_, rfl⟩, .inr ⟨k + 1, hk, hJx3⟩⟩
        · -- both
          have u1 : decide (rd l0 i ≤ rd l1 j) = true := decide_eq_true (by omega)
          have u2 : decide (rd l1 j ≤ rd l0 i) = true := decide_eq_true (by omega)
          gi_wp2
          have hA : WalkAt (wr.alloc (.cells #[.bool true, .bool true] 51)) w0 b1 b2 (some ad0) (some ad1) c0 c1 l0 l1 := hbr.alloc _
          generalize hW1 : wr.alloc (.cells #[.bool true, .bool true] 51) = W1 at hA ⊢
          have v1 := hA.1.cell
          have v2 := hA.2.1.cell
          obtain ⟨_, e0, s0⟩ := Kd.at_int (hA.row0 hC0) (i : Int) (by omega) (by omega)
          obtain ⟨_, e1, s1⟩ := Kd.at_int (hA.row0 hC1) (j : Int) (by omega) (by omega)
          cases e0
          cases e1
          simp only [Int.toNat_natCast] at s0 s1
          refine wpIn_wide.2 ?_
          go_still_tail 19, (by kernel_rfl)
          change wpList _ _ _ _ _ W1.drew
          subst hW1
          clear v1 v2 s0 s1
          go_wp2
          obtain ⟨hk, henc, hrest⟩ := enc_at (k := k) (L := walkL l0 l1) (HE.out.symm.trans (by rw [drop_rd ci, drop_rd cj, ← heq, walkL_eq]))
          obtain ⟨fn, tmps, assign, body, hy, hR⟩ := hY k ((wr.alloc (Obj.cells #[.bool true, .bool true] 51)).drew) hk (abides_drew hJ (abides_alloc hJ _ hJs))
          rw [henc, heq] at hy
          try dsimp only at hy
          gi_wp2
          refine hR.mono ?_
          rintro e W3 (⟨rfl, hJ3, hk3⟩ | ⟨rfl, hJx3⟩)
          · gi_wp2
            go_roundw
            case rel => exact ⟨i + 1, j + 1, k + 1, by omega, by omega, by go_num, by go_num, ⟨hrest.symm⟩, hk, hJ3, (show WalkAt (wr.alloc (Obj.cells #[.bool true, .bool true] 51)).drew w0 b1 b2 (some ad0) (some ad1) c0 c1 l0 l1 from hbr.alloc _).move hk3⟩
            case measure => simp [intOf]; omega
          · gi_wp2
            refine bodyPost_ret (results_none rfl _ _ _) rfl ?_
            exact ⟨⟨_, rfl⟩, .inr ⟨k + 1, hk, hJx3⟩⟩
        · -- the right one is less
          have u1 : decide (rd l0 i ≤ rd l1 j) = false := decide_eq_false (by omega)
          have u2 : decide (rd l1 j ≤ rd l0 i) = true := decide_eq_true (by omega)
          gi_wp2
          have hA : WalkAt (wr.alloc (.cells #[.bool true, .bool true] 51)) w0 b1 b2 (some ad0) (some ad1) c0 c1 l0 l1 := hbr.alloc _
          generalize hW1 : wr.alloc (.cells #[.bool true, .bool true] 51) = W1 at hA ⊢
          have v1 := hA.1.cell
          have v2 := hA.2.1.cell
          obtain ⟨_, e0, s0⟩ := Kd.at_int (hA.row0 hC0) (i : Int) (by omega) (by omega)
          obtain ⟨_, e1, s1⟩ := Kd.at_int (hA.row0 hC1) (j : Int) (by omega) (by omega)
          cases e0
          cases e1
          simp only [Int.toNat_natCast] at s0 s1
          refine wpIn_wide.2 ?_
          go_still_tail 19, (by kernel_rfl)
          change wpList _ _ _ _ _ W1.drew
          subst hW1
          clear v1 v2 s0 s1
          go_wp2
          obtain ⟨hk, henc, hrest⟩ := enc_at (k := k) (L := walkL l0 l1) (HE.out.symm.trans (by rw [drop_rd ci, drop_rd cj, walkL_gt _ _ hlt, ← drop_rd ci]))
          obtain ⟨fn, tmps, assign, body, hy, hR⟩ := hY k ((wr.alloc (Obj.cells #[.bool false, .bool true] 51)).drew) hk (abides_drew hJ (abides_alloc hJ _ hJs))
          rw [henc] at hy
          try dsimp only at hy
          gi_wp2
          refine hR.mono ?_
          rintro e W3 (⟨rfl, hJ3, hk3⟩ | ⟨rfl, hJx3⟩)
          · gi_wp2
            go_roundw
            case rel => exact ⟨i, j + 1, k + 1, by omega, by omega, by go_num, by go_num, ⟨hrest.symm⟩, hk, hJ3, (show WalkAt (wr.alloc (Obj.cells #[.bool false, .bool true] 51)).drew w0 b1 b2 (some ad0) (some ad1) c0 c1 l0 l1 from hbr.alloc _).move hk3⟩
            case measure => simp [intOf]; omega
          · gi_wp2
            refine bodyPost_ret (results_none rfl _ _ _) rfl ?_
            exact ⟨⟨_, rfl⟩, .inr ⟨k + 1, hk, hJx3⟩⟩
      · have tj : decide (j < l1.length) = false := decide_eq_false cj
        have hd : l1.drop j = [] := List.drop_eq_nil_of_le (by omega)
        obtain ⟨hk, henc, hrest⟩ := enc_at (k := k) (L := walkL l0 l1) (HE.out.symm.trans (by rw [hd, drop_rd ci, walkL_l]))
        obtain ⟨fn, tmps, assign, body, hy, hR⟩ := hY k (wr.alloc (Obj.cells #[.bool true, .bool false] 51)) hk (abides_alloc hJ _ hJs)
        rw [henc] at hy
        try dsimp only at hy
        gi_wp2
        refine hR.mono ?_
        rintro e W3 (⟨rfl, hJ3, hk3⟩ | ⟨rfl, hJx3⟩)
        · gi_wp2
          go_roundw
          case rel => exact ⟨i + 1, j, k + 1, by omega, by omega, by go_num, by go_num, ⟨by rw [hd]; exact hrest.symm⟩, hk, hJ3, (hbr.alloc _).move hk3⟩
          case measure => simp [intOf]; omega
        · gi_wp2
          refine bodyPost_ret (results_none rfl _ _ _) rfl ?_
          exact ⟨⟨_, rfl⟩, .inr ⟨k + 1, hk, hJx3⟩⟩
    · have ti : decide (i < l0.length) = false := decide_eq_false ci
      have hd : l0.drop i = [] := List.drop_eq_nil_of_le (by omega)
      by_cases cj : j < l1.length
      · have tj : decide (j < l1.length) = true := decide_eq_true cj
        obtain ⟨ad1, rfl, r1⟩ := Kd.at_int (hbr.row0 hC1) (j : Int) (by omega) (by omega)
        simp only [Int.toNat_natCast] at r1
        have hz1 := World.block_lt_of_cell? _ _ r1
        obtain ⟨hk, henc, hrest⟩ := enc_at (k := k) (L := walkL l0 l1) (HE.out.symm.trans (by rw [hd, drop_rd cj, walkL_r]))
        obtain ⟨fn, tmps, assign, body, hy, hR⟩ := hY k (wr.alloc (Obj.cells #[.bool false, .bool true] 51)) hk (abides_alloc hJ _ hJs)
        rw [henc] at hy
        try dsimp only at hy
        gi_wp2
        refine hR.mono ?_
        rintro e W3 (⟨rfl, hJ3, hk3⟩ | ⟨rfl, hJx3⟩)
        · gi_wp2
          go_roundw
          case rel => exact ⟨i, j + 1, k + 1, by omega, by omega, by go_num, by go_num, ⟨by rw [hd]; exact hrest.symm⟩, hk, hJ3, (hbr.alloc _).move hk3⟩
          case measure => simp [intOf]; omega
        · gi_wp2
          refine bodyPost_ret (results_none rfl _ _ _) rfl ?_
          exact ⟨⟨_, rfl⟩, .inr ⟨k + 1, hk, hJx3⟩⟩
      · have tj : decide (j < l1.length) = false := decide_eq_false cj
        have hd2 : l1.drop j = [] := List.drop_eq_nil_of_le (by omega)
        have hE := HE.out
        rw [hd, hd2, walkL_nil] at hE
        have hk : k = (walkL l0 l1).length := by
          have := congrArg List.length hE
          simp at this
          omega
        subst hk
        gi_wp2
        go_end0
        exact ⟨⟨_, rfl⟩, .inl hJs⟩
end Go.Proofs.Ytdmdhpnlalekfaa.Hand
