/- What the iterator of slices.Chunk(rows, 2) yields: the rows by twos. No further condition. -/
import Derived.Test.YtdmdhpnlalekfaaHComb
import Derived.Test.YtdmdhpnlalekfaaWFoot
import Derived.Deep.QuietTactic
import Derived.BigQuiet
namespace Go.Proofs.Ytdmdhpnlalekfaa.Hand
open Go.RowKit Go.Shelf Go.Proofs.YtdmdhpnlalekfaaW.PrintWords Go.Proofs.YtdmdhpnlalekfaaW.PrintMore Go.Proofs.Ytdmdhpnlalekfaa.Seq
attribute [local go_sem] Oper.semAt_some
set_option linter.unusedVariables false
set_option linter.unusedSimpArgs false
namespace chunk
set_option maxHeartbeats 1000000 in
theorem chunk_in (n : Nat) (A : Option Addr) (m c : Nat) (w : World) :
    CallsIn Fence.wide n Try.prog 53 #[.slice A m c, .int .i64 2] w fun e w' => e = .returned (.func (.func 65) #[] #[.pointer (some ⟨w.heap.size, 0, none⟩), .pointer (some ⟨w.heap.size + 1, 0, none⟩)]) ∧ w' = (w.alloc (.cells #[.slice A m c] 41)).alloc (.cells #[.int .i64 2] 3) := by
  refine callsIn_of_wp Try.func53 rfl trivial ?_ rfl
  simp only [Try.ntmps53, List.size_toArray, List.length_cons, List.length_nil, Nat.reduceAdd, Nat.reduceSub, Array.replicate_succ, Array.replicate_zero, List.push_toArray, List.append_toArray, List.nil_append, List.cons_append]
  gi_wp2
  go_ret
  exact ⟨rfl, rfl⟩
theorem grown_drewN (W : World) (m : Nat) : W.grownBy (W.drewN m) none := ⟨rfl, rfl, rfl, Nat.le_refl _, fun _ _ _ => rfl⟩
theorem abides_drewN {B : Nat} {J : Nat → World → Prop} (h : AbidesFrom B J) {k : Nat} {W : World} (m : Nat) (hj : J k W) : J k (W.drewN m) := h k W _ none hj (grown_drewN W m) (fun r e => by cases e)
/-- How long the k-th piece is. -/
def plen (n k : Nat) : Nat := min 2 (n - 2 * k)
def pcount (n : Nat) : Nat := (n + 1) / 2
def encP (ad : Addr) (n k : Nat) : Array Value := #[.slice (some (ad.add (2 * k))) (plen n k) (plen n k)]
def PS (n0 b1 b2 : Nat) (k : Nat) : Prop := k < n0 ∨ k = b1 ∨ k = b2
structure PAt (W w0 : World) (b1 b2 : Nat) (ad : Addr) (c n : Nat) : Prop where
  box : Boxed W b1 41 (.slice (some ad) n c)
  num : Boxed W b2 3 (.int .i64 2)
  same : ∀ k, k < w0.heap.size → W.heap[k]? = w0.heap[k]?
theorem PAt.move {W W' w0 : World} {b1 b2 : Nat} {ad : Addr} {c n : Nat} (h : PAt W w0 b1 b2 ad c n) (hk : KeptAt (PS w0.heap.size b1 b2) W W') : PAt W' w0 b1 b2 ad c n :=
  ⟨(hk b1 (.inr (.inl rfl))).trans h.box, (hk b2 (.inr (.inr rfl))).trans h.num, fun k hl => (hk k (.inl hl)).trans (h.same k hl)⟩
set_option maxRecDepth 100000 in
set_option maxHeartbeats 4000000 in
theorem chunk_seq (m : Nat) (hm : 1 ≤ m) (w0 : World) (b1 b2 : Nat) (ad : Addr) (c n : Nat) (hn : n ≤ 9223372036854775806) (hc : n ≤ c) (w : World) (hw : PAt w w0 b1 b2 ad c n) (hle : w0.heap.size ≤ w.heap.size) :
    SeqL Fence.wide m Try.prog 65 #[.pointer (some ⟨b1, 0, none⟩), .pointer (some ⟨b2, 0, none⟩)] (encP ad n) (pcount n) (KeptAt (PS w0.heap.size b1 b2)) w := by
  intro lp J Jx W hW hJ hJx hY h0
  have hbW : PAt W w0 b1 b2 ad c n := ⟨(hW.block b1 hw.box.lt).trans hw.box, (hW.block b2 hw.num.lt).trans hw.num, fun k hk => (hW.block k (by omega)).trans (hw.same k hk)⟩
  refine callsIn_of_wp Try.func65 rfl trivial ?_ rfl
  simp only [Try.ntmps65, List.size_toArray, List.length_cons, List.length_nil, Nat.reduceAdd, Nat.reduceSub, Array.replicate_succ, Array.replicate_zero, List.push_toArray, List.append_toArray, List.nil_append, List.cons_append]
  gi_wp2
  gi_loopw [4] (fun v4 wr => ∃ k : Nat, k ≤ pcount n ∧ v4 = .int .i64 ((2 * k : Nat) : Int) ∧ J k wr ∧ PAt wr w0 b1 b2 ad c n)
    (fun v4 _ => n + 1 - (intOf v4).toNat)
  case atStart => exact ⟨0, Nat.zero_le _, rfl, h0, hbW⟩
  case round =>
    obtain ⟨k, hk, rfl, hJs, hbr⟩ := hrel
    have q1 := hbr.box.cell
    have q2 := hbr.num.cell
    unfold pcount at hk
    by_cases ci : 2 * k < n
    · have ti : decide (((2 * k : Nat) : Int) < (n : Int)) = true := decide_eq_true (by omega)
      have hkl : k < pcount n := by unfold pcount; omega
      by_cases c2 : n - 2 * k < 2
      · have hp : plen n k = 1 := by unfold plen; omega
        have e1 : n = 2 * k + 1 := by omega
        subst e1
        gi_wp2
        refine wpIn_wide.2 ?_
        go_quiet (fail)
        have hJn := abides_drewN hJ nq hJs
        have hbn : PAt (wr.drewN nq) w0 b1 b2 ad c (2 * k + 1) := ⟨hbr.box, hbr.num, hbr.same⟩
        generalize wr.drewN nq = Wn at hJn hbn ⊢
        have q1n := hbn.box.cell
        have q2n := hbn.num.cell
        obtain ⟨fn, tmps, assign, body, hy, hR⟩ := hY k Wn hkl hJn
        unfold encP at hy
        rw [hp] at hy
        have w1 : wrap64 (((2 * k : Nat) : Int) + 1) = ((2 * k + 1 : Nat) : Int) := by unfold wrap64; omega
        gi_wp2
        refine hR.mono ?_
        rintro e W3 (⟨rfl, hJ3, hk3⟩ | ⟨rfl, hJx3⟩)
        · have hb3 := hbn.move hk3
          have q3 := hb3.num.cell
          gi_wp2
          go_roundw
          case rel => exact ⟨k + 1, by unfold pcount; omega, by go_num, hJ3, hb3⟩
          case measure => simp [intOf]; omega
        · gi_wp2
          refine bodyPost_ret (results_none rfl _ _ _) rfl ?_
          exact ⟨⟨_, rfl⟩, .inr ⟨k + 1, hkl, hJx3⟩⟩
      · have hp : plen n k = 2 := by unfold plen; omega
        obtain ⟨d, e1⟩ : ∃ d, n = 2 * k + (2 + d) := ⟨n - 2 * k - 2, by omega⟩
        subst e1
        gi_wp2
        refine wpIn_wide.2 ?_
        go_quiet (fail)
        have hJn := abides_drewN hJ nq hJs
        have hbn : PAt (wr.drewN nq) w0 b1 b2 ad c (2 * k + (2 + d)) := ⟨hbr.box, hbr.num, hbr.same⟩
        generalize wr.drewN nq = Wn at hJn hbn ⊢
        have q1n := hbn.box.cell
        have q2n := hbn.num.cell
        obtain ⟨fn, tmps, assign, body, hy, hR⟩ := hY k Wn hkl hJn
        unfold encP at hy
        rw [hp] at hy
        have s1 : 2 * k + 2 - 2 * k = 2 := by omega
        gi_wp2
        refine hR.mono ?_
        rintro e W3 (⟨rfl, hJ3, hk3⟩ | ⟨rfl, hJx3⟩)
        · have hb3 := hbn.move hk3
          have q3 := hb3.num.cell
          gi_wp2
          go_roundw
          case rel => exact ⟨k + 1, by unfold pcount; omega, by go_num, hJ3, hb3⟩
          case measure => simp [intOf]; omega
        · gi_wp2
          refine bodyPost_ret (results_none rfl _ _ _) rfl ?_
          exact ⟨⟨_, rfl⟩, .inr ⟨k + 1, hkl, hJx3⟩⟩
    · have ti : decide (((2 * k : Nat) : Int) < (n : Int)) = false := decide_eq_false (by omega)
      obtain rfl : k = pcount n := by unfold pcount; omega
      gi_wp2
      first | (refine bodyPost_end (results_none rfl _ _ _) rfl ?_) | (refine bodyPost_ret (results_none rfl _ _ _) rfl ?_)
      exact ⟨⟨_, rfl⟩, .inl hJs⟩
end chunk
end Go.Proofs.Ytdmdhpnlalekfaa.Hand
