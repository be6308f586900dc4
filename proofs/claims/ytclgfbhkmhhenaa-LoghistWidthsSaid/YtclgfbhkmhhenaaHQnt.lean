/- The contract of loghist.Quantile: what the Go code returns for any histogram and fraction. No further condition. -/
import Derived.Test.YtclgfbhkmhhenaaHRnk
import Derived.Test.YtclgfbhkmhhenaaBA
import Derived.Test.YtclgfbhkmhhenaaAA
namespace Go.Proofs.Ytclgfbhkmhhenaa.Hand
open Go.RowKit Go.Shelf Go.Proofs.YtclgfbhkmhhenaaW.PrintWords Go.Proofs.YtclgfbhkmhhenaaW.PrintMore Go.Proofs.Ytclgfbhkmhhenaa.Seq Go.Proofs.Ytclgfbhkmhhenaa.A Go.Proofs.Ytclgfbhkmhhenaa.B
attribute [local go_sem] Oper.semAt_some
set_option linter.unusedVariables false
set_option linter.unusedSimpArgs false
def quanG (p c s mn mx : Int) (l : List SB) (r : Int) : Nat → List SB → Option (Int × Int × Int)
  | _, [] => some (0, 0, 28)
  | i, y :: t => if r ≤ upF l (i + 1) then ((loghist_possible.f p c s mn mx l y.f0 y.f1).bind fun q => some (q.1, q.2, 0)) else quanG p c s mn mx l r (i + 1) t
def loghist_Quantile.f (k : Nat) (p c s mn mx : Int) (l : List SB) (n d : Int) : Option (Int × Int × Int) :=
  (loghist_Check.f k p c s mn mx l).bind fun e => if e = 0 then
    ((ratio_Check.f k n d).bind fun e2 => if e2 = 0 then
      (if n < 0 ∨ d < n then some (0, 0, 2) else if c = 0 then some (0, 0, 28) else
        (loghist_rank.f k n d c).bind fun r => if r.2 = 0 then quanG p c s mn mx l r.1 0 l else some (0, 0, r.2))
     else some (0, 0, 1))
  else some (0, 0, 1)
theorem loghist_Quantile.mono : ∀ a0 a1 a2 a3 a4 a5 a6 a7 k, LeO (loghist_Quantile.f k a0 a1 a2 a3 a4 a5 a6 a7) (loghist_Quantile.f (k + 1) a0 a1 a2 a3 a4 a5 a6 a7) := by
  intro a0 a1 a2 a3 a4 a5 a6 a7 k
  unfold loghist_Quantile.f
  repeat' first
    | (with_reducible exact LeO.refl _)
    | (with_reducible exact loghist_Check.mono _ _ _ _ _ _ _)
    | (with_reducible exact ratio_Check.mono _ _ _)
    | (with_reducible exact loghist_rank.mono _ _ _ _)
    | (with_reducible refine LeO.ite ?_ ?_)
    | (with_reducible refine LeO.bind ?_ (fun _ => ?_))
/-- What lies in memory: a histogram, a fraction and the three results. -/
structure QnB (w W : World) (b : Nat) (p c s mn mx : Int) (v : Value) (n d r1 r2 r3 : Int) : Prop where
  below : Below w.heap.size w W
  le : w.heap.size ≤ b
  k2 : W.heap[b]? = some (.cells #[.int .i64 p, .int .i64 c, .int .i64 s, .int .i64 mn, .int .i64 mx, v] 29 (0, 0))
  k3 : W.heap[b + 1]? = some (.cells #[.int .i64 n, .int .i64 d] 42 (0, 0))
  k4 : W.heap[b + 1 + 1]? = some (.cells #[.int .i64 r1] 3 (0, 0))
  k5 : W.heap[b + 1 + 1 + 1]? = some (.cells #[.int .i64 r2] 3 (0, 0))
  k6 : W.heap[b + 1 + 1 + 1 + 1]? = some (.cells #[.int .i64 r3] 22 (0, 0))
section
variable {w W W' : World} {b : Nat} {p c s mn mx n d r1 r2 r3 : Int} {v : Value}
theorem QnB.next (h : QnB w W b p c s mn mx v n d r1 r2 r3) (hb : Below W.heap.size W W') : QnB w W' b p c s mn mx v n d r1 r2 r3 :=
  ⟨h.below.trans (hb.mono h.below.size), h.le, (hb.block _ (blk_lt h.k2)).trans h.k2, (hb.block _ (blk_lt h.k3)).trans h.k3, (hb.block _ (blk_lt h.k4)).trans h.k4, (hb.block _ (blk_lt h.k5)).trans h.k5, (hb.block _ (blk_lt h.k6)).trans h.k6⟩
theorem QnB.kept {Bnd : Nat} {row : Option Nat} (h : QnB w W b p c s mn mx v n d r1 r2 r3) (hB : w.heap.size ≤ Bnd) (hg : W.grownBy W' row) (hr : ∀ r, row = some r → Bnd ≤ r ∧ ∃ o : Obj, W.heap[r]? = some o ∧ o.isCells = false) : QnB w W' b p c s mn mx v n d r1 r2 r3 :=
  ⟨h.below.grown hg h.below.size (fun k e => Nat.le_trans hB (hr k e).1), h.le, blk_kept' h.k2 hg hr, blk_kept' h.k3 hg hr, blk_kept' h.k4 hg hr, blk_kept' h.k5 hg hr, blk_kept' h.k6 hg hr⟩
theorem QnB.cells (h : QnB w W b p c s mn mx v n d r1 r2 r3) : W.cell? ⟨b, 0, none⟩ = some (.int .i64 p) ∧ W.cell? ⟨b, 1, none⟩ = some (.int .i64 c) ∧ W.cell? ⟨b, 2, none⟩ = some (.int .i64 s) ∧ W.cell? ⟨b, 3, none⟩ = some (.int .i64 mn) ∧ W.cell? ⟨b, 4, none⟩ = some (.int .i64 mx) ∧ W.cell? ⟨b, 5, none⟩ = some v :=
  ⟨(blk_cell h.k2 0).trans rfl, (blk_cell h.k2 1).trans rfl, (blk_cell h.k2 2).trans rfl, (blk_cell h.k2 3).trans rfl, (blk_cell h.k2 4).trans rfl, (blk_cell h.k2 5).trans rfl⟩
theorem QnB.frac (h : QnB w W b p c s mn mx v n d r1 r2 r3) : W.cell? ⟨b + 1, 0, none⟩ = some (.int .i64 n) ∧ W.cell? ⟨b + 1, 1, none⟩ = some (.int .i64 d) := ⟨(blk_cell h.k3 0).trans rfl, (blk_cell h.k3 1).trans rfl⟩
theorem QnB.res (h : QnB w W b p c s mn mx v n d r1 r2 r3) : W.cell? ⟨b + 1 + 1, 0, none⟩ = some (.int .i64 r1) ∧ W.frozen? ⟨b + 1 + 1, 0, none⟩ = false ∧ W.cell? ⟨b + 1 + 1 + 1, 0, none⟩ = some (.int .i64 r2) ∧ W.frozen? ⟨b + 1 + 1 + 1, 0, none⟩ = false ∧ W.cell? ⟨b + 1 + 1 + 1 + 1, 0, none⟩ = some (.int .i64 r3) ∧ W.frozen? ⟨b + 1 + 1 + 1 + 1, 0, none⟩ = false :=
  ⟨(blk_cell h.k4 0).trans rfl, blk_frozen h.k4 0, (blk_cell h.k5 0).trans rfl, blk_frozen h.k5 0, (blk_cell h.k6 0).trans rfl, blk_frozen h.k6 0⟩
theorem QnB.put (h : QnB w W b p c s mn mx v n d r1 r2 r3) (x y z : Int) : QnB w (((W.setCell ⟨b + 1 + 1, 0, none⟩ (.int .i64 x)).setCell ⟨b + 1 + 1 + 1, 0, none⟩ (.int .i64 y)).setCell ⟨b + 1 + 1 + 1 + 1, 0, none⟩ (.int .i64 z)) b p c s mn mx v n d x y z := by
  have g : ∀ k, k ≠ b + 1 + 1 → k ≠ b + 1 + 1 + 1 → k ≠ b + 1 + 1 + 1 + 1 → (((W.setCell ⟨b + 1 + 1, 0, none⟩ (.int .i64 x)).setCell ⟨b + 1 + 1 + 1, 0, none⟩ (.int .i64 y)).setCell ⟨b + 1 + 1 + 1 + 1, 0, none⟩ (.int .i64 z)).heap[k]? = W.heap[k]? := fun k h1 h2 h3 =>
    (Below.heap_setCell _ _ _ k h3).trans ((Below.heap_setCell _ _ _ k h2).trans (Below.heap_setCell _ _ _ k h1))
  have hl := h.le
  refine ⟨((h.below.setCell (show w.heap.size ≤ b + 1 + 1 by omega) _).setCell (show w.heap.size ≤ b + 1 + 1 + 1 by omega) _).setCell (show w.heap.size ≤ b + 1 + 1 + 1 + 1 by omega) _, hl, (g _ (by omega) (by omega) (by omega)).trans h.k2, (g _ (by omega) (by omega) (by omega)).trans h.k3, ?_, ?_, ?_⟩
  · exact (Below.heap_setCell _ _ _ _ (show b + 1 + 1 ≠ b + 1 + 1 + 1 + 1 by omega)).trans ((Below.heap_setCell _ _ _ _ (show b + 1 + 1 ≠ b + 1 + 1 + 1 by omega)).trans (blk_put h.k4 0 _ rfl))
  · exact (Below.heap_setCell _ _ _ _ (show b + 1 + 1 + 1 ≠ b + 1 + 1 + 1 + 1 by omega)).trans (blk_put ((Below.heap_setCell _ _ _ _ (show b + 1 + 1 + 1 ≠ b + 1 + 1 by omega)).trans h.k5) 0 _ rfl)
  · exact blk_put ((Below.heap_setCell _ _ _ _ (show b + 1 + 1 + 1 + 1 ≠ b + 1 + 1 + 1 by omega)).trans ((Below.heap_setCell _ _ _ _ (show b + 1 + 1 + 1 + 1 ≠ b + 1 + 1 by omega)).trans h.k6)) 0 _ rfl
theorem QnB.out (h : QnB w W b p c s mn mx v n d r1 r2 r3) {tmps : Array Value} (h4 : tmps.getD 4 undef = .pointer (some ⟨b + 1 + 1, 0, none⟩)) (h5 : tmps.getD 5 undef = .pointer (some ⟨b + 1 + 1 + 1, 0, none⟩)) (h6 : tmps.getD 6 undef = .pointer (some ⟨b + 1 + 1 + 1 + 1, 0, none⟩)) :
    (results Try.f29 tmps).run Try.prog W = .ok (.tuple #[.int .i64 r1, .int .i64 r2, .int .i64 r3]) W := by
  obtain ⟨y0, _, y1, _, y2, _⟩ := h.res
  have g4 : tmps[4]?.getD undef = .pointer (some ⟨b + 1 + 1, 0, none⟩) := by simpa using h4
  have g5 : tmps[5]?.getD undef = .pointer (some ⟨b + 1 + 1 + 1, 0, none⟩) := by simpa using h5
  have g6 : tmps[6]?.getD undef = .pointer (some ⟨b + 1 + 1 + 1 + 1, 0, none⟩) := by simpa using h6
  simp [results, Try.results29, go_sem, g4, g5, g6, y0, y1, y2]
end
theorem QnB.made (w : World) (p c s mn mx : Int) (v : Value) (n d : Int) : QnB w (((((w.alloc (.cells #[.int .i64 p, .int .i64 c, .int .i64 s, .int .i64 mn, .int .i64 mx, v] 29)).alloc (.cells #[.int .i64 n, .int .i64 d] 42)).alloc (.cells #[.int .i64 0] 3)).alloc (.cells #[.int .i64 0] 3)).alloc (.cells #[.int .i64 0] 22)) w.heap.size p c s mn mx v n d 0 0 0 := by
  have n1 := World.alloc_heap_new w (.cells #[.int .i64 p, .int .i64 c, .int .i64 s, .int .i64 mn, .int .i64 mx, v] 29)
  have n2 := World.alloc_heap_new (w.alloc (.cells #[.int .i64 p, .int .i64 c, .int .i64 s, .int .i64 mn, .int .i64 mx, v] 29)) (.cells #[.int .i64 n, .int .i64 d] 42)
  have n3 := World.alloc_heap_new ((w.alloc (.cells #[.int .i64 p, .int .i64 c, .int .i64 s, .int .i64 mn, .int .i64 mx, v] 29)).alloc (.cells #[.int .i64 n, .int .i64 d] 42)) (.cells #[.int .i64 0] 3)
  have n4 := World.alloc_heap_new (((w.alloc (.cells #[.int .i64 p, .int .i64 c, .int .i64 s, .int .i64 mn, .int .i64 mx, v] 29)).alloc (.cells #[.int .i64 n, .int .i64 d] 42)).alloc (.cells #[.int .i64 0] 3)) (.cells #[.int .i64 0] 3)
  have n5 := World.alloc_heap_new ((((w.alloc (.cells #[.int .i64 p, .int .i64 c, .int .i64 s, .int .i64 mn, .int .i64 mx, v] 29)).alloc (.cells #[.int .i64 n, .int .i64 d] 42)).alloc (.cells #[.int .i64 0] 3)).alloc (.cells #[.int .i64 0] 3)) (.cells #[.int .i64 0] 22)
  simp only [World.size_alloc] at n2 n3 n4 n5
  exact ⟨bA (bA (bA (bA (bA (Below.refl _ _) _) _) _) _) _, Nat.le_refl _, blk_alloc (blk_alloc (blk_alloc (blk_alloc n1 _) _) _) _, blk_alloc (blk_alloc (blk_alloc n2 _) _) _, blk_alloc (blk_alloc n3 _) _, blk_alloc n4 _, n5⟩
set_option maxRecDepth 100000 in
set_option maxHeartbeats 8000000 in
theorem loghist_Quantile.calls (k : Nat) (a0_0 a0_1 a0_2 a0_3 a0_4 : Int) (A0_5 : Option Addr) (c0_5 : Nat) (l0_5 : List SB) (a1_0 a1_1 : Int) (r1 r2 r3 : Int) (w : World) (hr0_5 : Kd.C kB w A0_5 l0_5.length l0_5) (hc0_5 : l0_5.length ≤ c0_5) (h : loghist_Quantile.f k a0_0 a0_1 a0_2 a0_3 a0_4 l0_5 a1_0 a1_1 = some (r1, r2, r3)) :
    Calls Try.prog 29 #[.agg #[.int .i64 a0_0, .int .i64 a0_1, .int .i64 a0_2, .int .i64 a0_3, .int .i64 a0_4, .slice A0_5 l0_5.length c0_5], .agg #[.int .i64 a1_0, .int .i64 a1_1]] w fun e w' => e = .returned (.tuple #[.int .i64 r1, .int .i64 r2, .int .i64 r3]) ∧ Below w.heap.size w w' := by
  unfold loghist_Quantile.f at h
  obtain ⟨ec, hec, h⟩ := Option.bind_eq_some_iff.1 h
  have HR := Aside0.mk hr0_5
  have HC := Aside0.mk hc0_5
  have HE := Aside0.mk hec
  clear hr0_5 hec
  refine (callsIn_wide (n := 4)).1 ?_
  refine callsIn_of_wp_marks Try.func29 rfl trivial ?_ rfl
  simp only [Try.ntmps29, List.size_toArray, List.length_cons, List.length_nil, Nat.reduceAdd, Nat.reduceSub, Array.replicate_succ, Array.replicate_zero, List.push_toArray, List.append_toArray, List.nil_append, List.cons_append]
  have K0 := Aside0.mk (QnB.made w a0_0 a0_1 a0_2 a0_3 a0_4 (.slice A0_5 l0_5.length c0_5) a1_0 a1_1)
  gi_wp2_with fail
  generalize ((((w.alloc (.cells #[.int .i64 a0_0, .int .i64 a0_1, .int .i64 a0_2, .int .i64 a0_3, .int .i64 a0_4, .slice A0_5 l0_5.length c0_5] 29)).alloc (.cells #[.int .i64 a1_0, .int .i64 a1_1] 42)).alloc (.cells #[.int .i64 0] 3)).alloc (.cells #[.int .i64 0] 3)).alloc (.cells #[.int .i64 0] 22) = W0 at K0 ⊢
  refine ⟨trivial, (callsIn_wide.2 (loghist_Check.calls k a0_0 a0_1 a0_2 a0_3 a0_4 A0_5 c0_5 l0_5 ec W0 (Kd.C_below HR.out K0.out.below) HC.out HE.out)).mono ?_⟩
  rintro e W ⟨rfl, hb⟩
  have KG := Aside0.mk (K0.out.next hb)
  clear hb K0
  obtain ⟨z0, z1, z2, z3, z4, z5⟩ := KG.out.cells
  obtain ⟨y0, y1⟩ := KG.out.frac
  obtain ⟨x0, f0, x1, f1, x2, f2⟩ := KG.out.res
  by_cases ce : ec = 0
  · rw [if_pos ce] at h
    have ceb : (ec != 0) = false := bne_eq_false_iff_eq.2 ce
    obtain ⟨e2, he2, h⟩ := Option.bind_eq_some_iff.1 h
    have HE2 := Aside0.mk he2
    clear he2 ce
    gi_wp2_with fail
    refine ⟨trivial, (callsIn_wide.2 (ratio_Check.calls k a1_0 a1_1 e2 W HE2.out)).mono ?_⟩
    rintro e W1 ⟨rfl, hb⟩
    have KH := Aside0.mk (KG.out.next hb)
    clear hb KG z0 z1 z2 z3 z4 z5 y0 y1 x0 f0 x1 f1 x2 f2
    obtain ⟨z0, z1, z2, z3, z4, z5⟩ := KH.out.cells
    obtain ⟨y0, y1⟩ := KH.out.frac
    obtain ⟨x0, f0, x1, f1, x2, f2⟩ := KH.out.res
    by_cases ce2 : e2 = 0
    · rw [if_pos ce2] at h
      have ceb2 : (e2 != 0) = false := bne_eq_false_iff_eq.2 ce2
      clear ce2
      by_cases cn : a1_0 < 0 ∨ a1_1 < a1_0
      · rw [if_pos cn] at h
        cases h
        have cnb : decide (a1_0 < 0) = true ∨ (decide (a1_0 < 0) = false ∧ decide (a1_1 < a1_0) = true) := by
          by_cases g : a1_0 < 0
          · exact .inl (decide_eq_true g)
          · exact .inr ⟨decide_eq_false g, decide_eq_true (by omega)⟩
        clear cn
        rcases cnb with cnb | ⟨cnb, cnc⟩
        all_goals
          gi_wp2
          exact ⟨_, (KH.out.put 0 0 2).out rfl rfl rfl, rfl, (KH.out.put 0 0 2).below⟩
      · rw [if_neg cn] at h
        have cnb : decide (a1_0 < 0) = false := decide_eq_false (by omega)
        have cnc : decide (a1_1 < a1_0) = false := decide_eq_false (by omega)
        clear cn
        by_cases c0 : a0_1 = 0
        · rw [if_pos c0] at h
          cases h
          have c0b : (a0_1 == 0) = true := beq_iff_eq.2 c0
          clear c0
          gi_wp2
          exact ⟨_, (KH.out.put 0 0 28).out rfl rfl rfl, rfl, (KH.out.put 0 0 28).below⟩
        · rw [if_neg c0] at h
          have c0b : (a0_1 == 0) = false := beq_eq_false_iff_ne.2 c0
          clear c0
          obtain ⟨⟨rk, re⟩, hrk, h⟩ := Option.bind_eq_some_iff.1 h
          dsimp only at h
          have HRK := Aside0.mk hrk
          clear hrk
          gi_wp2_with fail
          refine ⟨trivial, (callsIn_wide.2 (loghist_rank.calls k a1_0 a1_1 a0_1 rk re W1 HRK.out)).mono ?_⟩
          rintro e W2 ⟨rfl, hb⟩
          have KI := Aside0.mk (KH.out.next hb)
          have KJ : Aside0 (QnB w (W2.alloc (.cells #[.int .i64 rk] 3)) w.heap.size a0_0 a0_1 a0_2 a0_3 a0_4 (.slice A0_5 l0_5.length c0_5) a1_0 a1_1 0 0 0) := ⟨KI.out.next (bA (Below.refl _ _) _)⟩
          have n7 := Aside0.mk (World.alloc_heap_new W2 (.cells #[.int .i64 rk] 3))
          have l7 : w.heap.size + 1 + 1 + 1 + 1 < W2.heap.size := blk_lt KI.out.k6
          clear hb KH z0 z1 z2 z3 z4 z5 y0 y1 x0 f0 x1 f1 x2 f2
          obtain ⟨z0, z1, z2, z3, z4, z5⟩ := KJ.out.cells
          obtain ⟨x0, f0, x1, f1, x2, f2⟩ := KJ.out.res
          by_cases cr : re = 0
          · rw [if_pos cr] at h
            have crb : (re != 0) = false := bne_eq_false_iff_eq.2 cr
            clear cr
            have HQ := Aside0.mk h
            clear h
            gi_wp2_with fail
            refine ⟨trivial, (counted_in _ _ _ _ _ _ _ _).mono ?_⟩
            rintro e w' ⟨rfl, rfl⟩
            clear z0 z1 z2 z3 z4 z5 x0 f0 x1 f1 x2 f2 KI
            generalize hb7 : W2.heap.size = b7 at n7 l7 ⊢
            clear hb7
            generalize W2.alloc (.cells #[.int .i64 rk] 3) = W3 at KJ n7 ⊢
            have K9 : Aside0 (QnB w (W3.alloc (.cells #[.int .i64 a0_0, .int .i64 a0_1, .int .i64 a0_2, .int .i64 a0_3, .int .i64 a0_4, .slice A0_5 l0_5.length c0_5] 29)) w.heap.size a0_0 a0_1 a0_2 a0_3 a0_4 (.slice A0_5 l0_5.length c0_5) a1_0 a1_1 0 0 0) := ⟨KJ.out.next (bA (Below.refl _ _) _)⟩
            have K79 : Aside0 ((W3.alloc (.cells #[.int .i64 a0_0, .int .i64 a0_1, .int .i64 a0_2, .int .i64 a0_3, .int .i64 a0_4, .slice A0_5 l0_5.length c0_5] 29)).heap[b7]? = some (.cells #[.int .i64 rk] 3 (0, 0))) := ⟨blk_alloc n7.out _⟩
            have n9 := World.alloc_heap_new W3 (.cells #[.int .i64 a0_0, .int .i64 a0_1, .int .i64 a0_2, .int .i64 a0_3, .int .i64 a0_4, .slice A0_5 l0_5.length c0_5] 29)
            clear KJ n7
            generalize W3.alloc (.cells #[.int .i64 a0_0, .int .i64 a0_1, .int .i64 a0_2, .int .i64 a0_3, .int .i64 a0_4, .slice A0_5 l0_5.length c0_5] 29) = W9 at K9 K79 n9 ⊢
            gi_wp2_with fail
            have B9 := K9.out.below
            have s9 : b7 < W9.heap.size := blk_lt K79.out
            have n9lt : W3.heap.size < W9.heap.size := blk_lt n9
            refine rangeFunc_LA (F := Fence.wide) rfl (by omega) (gf := 73) (lb := #[.pointer (some ⟨W3.heap.size, 0, none⟩)]) rfl trivial (enters_of Try.func73 (by kernel_rfl) rfl)
              (counted_seq (4 - 1) (by omega) w W3.heap.size _ _ _ _ _ A0_5 c0_5 l0_5 HR.out W9 n9 (LikeAt.of_below B9)) keptAt_t
              (fun W l o o' hl ho h1 h2 k hk => World.putObj_heap_other (by have := B9.size; omega)) (Below.refl _ _) (fun _ => rfl)
              (fun j W => quanG a0_0 a0_1 a0_2 a0_3 a0_4 l0_5 rk j (l0_5.drop j) = some (r1, r2, r3) ∧ W.heap[b7]? = some (.cells #[.int .i64 rk] 3 (0, 0)) ∧ QnB w W w.heap.size a0_0 a0_1 a0_2 a0_3 a0_4 (.slice A0_5 l0_5.length c0_5) a1_0 a1_1 0 0 0)
              (fun c j W => c = .ret ∧ QnB w W w.heap.size a0_0 a0_1 a0_2 a0_3 a0_4 (.slice A0_5 l0_5.length c0_5) a1_0 a1_1 r1 r2 r3)
              (fun s X Y row hs hg hr => ⟨hs.1, blk_kept' hs.2.1 hg hr, hs.2.2.kept B9.size hg hr⟩)
              (fun c s X Y row hs hg hr => ⟨hs.1, hs.2.kept B9.size hg hr⟩)
              ⟨by rw [List.drop_zero]; exact HQ.out, K79.out, K9.out⟩
              ?_
              (fun j g W => W.heap[g]? = some (.cells #[.int .i64 (rd_T66 l0_5 (j : Int)).f0, .int .i64 (rd_T66 l0_5 (j : Int)).f1] 66 (0, 0)))
              (fun j g s X Y row hs hg hr => blk_kept' hs hg hr)
              (fun hXs hg k hk => hg.block k (by have := B9.size; omega) (by simp)) ?_ ?_ ?_ ?_
            rotate_left
            · intro l j W K hj hK
              unfold encB
              gi_wp2
              obtain ⟨g, hgg⟩ : ∃ g, g = W.heap.size := ⟨_, rfl⟩
              have hfin := hK g _ (by rw [hgg]; exact World.alloc_heap_new W _) (World.grownBy_alloc W _ none) (by omega) (by rw [hgg]; simp)
              rw [← hgg]
              exact hfin
            · rintro l j g W hj ⟨hs, k7, hA⟩ hg hg0 hg1
              have hdr : l0_5.drop j = rd_T66 l0_5 (j : Int) :: l0_5.drop (j + 1) := by
                rw [List.drop_eq_getElem_cons hj]
                congr 1
                simp [rd_T66, List.getD, List.getElem?_eq_getElem hj]
              rw [hdr, quanG] at hs
              generalize rd_T66 l0_5 (j : Int) = z at *
              generalize upF l0_5 (j + 1) = u at *
              have c7 : W.cell? ⟨b7, 0, none⟩ = some (.int .i64 rk) := (blk_cell k7 0).trans rfl
              have KA := Aside0.mk hA
              have K7 := Aside0.mk k7
              by_cases gu : rk ≤ u
              · rw [if_pos gu] at hs
                obtain ⟨⟨lo, hi⟩, hq, hs'⟩ := Option.bind_eq_some_iff.1 hs
                cases hs'
                have HQ2 := Aside0.mk hq
                have gub : decide (rk ≤ u) = true := decide_eq_true gu
                have zg0 : W.cell? ⟨g, 0, none⟩ = some (.int .i64 z.f0) := (blk_cell hg 0).trans rfl
                have zg1 : W.cell? ⟨g, 1, none⟩ = some (.int .i64 z.f1) := (blk_cell hg 1).trans rfl
                obtain ⟨z0, z1, z2, z3, z4, z5⟩ := hA.cells
                clear hs hq hA k7 hg hdr gu HQ
                gi_wp2_with fail
                refine ⟨trivial, (CallsIn.inRound l (callsIn_wide.2 (loghist_possible.calls a0_0 a0_1 a0_2 a0_3 a0_4 A0_5 c0_5 l0_5 z.f0 z.f1 lo hi W (Kd.C_below HR.out KA.out.below) HC.out HQ2.out))).mono ?_⟩
                rintro e Y ⟨rfl, hb⟩
                have KY := Aside0.mk (KA.out.next hb)
                obtain ⟨x0, f0, x1, f1, x2, f2⟩ := KY.out.res
                have HBW := Aside0.mk hb
                clear hb zg0 zg1 z0 z1 z2 z3 z4 z5 c7
                gi_wp2
                have A1 := KY.out.put lo hi 0
                have m4 := KY.out.k4
                have m5 := (Below.heap_setCell Y ⟨w.heap.size + 1 + 1, 0, none⟩ (.int .i64 lo) (w.heap.size + 1 + 1 + 1) (show w.heap.size + 1 + 1 + 1 ≠ w.heap.size + 1 + 1 by omega)).trans KY.out.k5
                have m6 := (Below.heap_setCell (Y.setCell ⟨w.heap.size + 1 + 1, 0, none⟩ (.int .i64 lo)) ⟨w.heap.size + 1 + 1 + 1, 0, none⟩ (.int .i64 hi) (w.heap.size + 1 + 1 + 1 + 1) (show w.heap.size + 1 + 1 + 1 + 1 ≠ w.heap.size + 1 + 1 + 1 by omega)).trans ((Below.heap_setCell Y ⟨w.heap.size + 1 + 1, 0, none⟩ (.int .i64 lo) (w.heap.size + 1 + 1 + 1 + 1) (show w.heap.size + 1 + 1 + 1 + 1 ≠ w.heap.size + 1 + 1 by omega)).trans KY.out.k6)
                exact ⟨keeps_set (keeps_set (keeps_set (keeps_below HBW.out _) m4 0 _) m5 0 _) m6 0 _, rfl, A1⟩
              · rw [if_neg gu] at hs
                have HS := Aside0.mk hs
                have gub : decide (rk ≤ u) = false := decide_eq_false gu
                clear hs hA k7 hg hdr gu HQ
                gi_wp2
                exact ⟨keeps_below (Below.refl _ _) _, fun k hk => rfl, HS.out, K7.out, KA.out⟩
            · rintro D W hD ⟨hs, k7, hA⟩ hK
              rw [List.drop_length, quanG] at hs
              cases hs
              have KA := Aside0.mk hA
              have HK := Aside0.mk hK
              obtain ⟨x0, f0, x1, f1, x2, f2⟩ := hA.res
              clear hA hK k7 HQ
              gi_wp2
              have A2 := KA.out.put 0 0 28
              have hKD : (((W.setCell ⟨w.heap.size + 1 + 1, 0, none⟩ (.int .i64 0)).setCell ⟨w.heap.size + 1 + 1 + 1, 0, none⟩ (.int .i64 0)).setCell ⟨w.heap.size + 1 + 1 + 1 + 1, 0, none⟩ (.int .i64 28)).heap[D]? = some (.deferred (some [])) :=
                (Below.heap_setCell _ _ _ D (show D ≠ w.heap.size + 1 + 1 + 1 + 1 by omega)).trans ((Below.heap_setCell _ _ _ D (show D ≠ w.heap.size + 1 + 1 + 1 by omega)).trans ((Below.heap_setCell _ _ _ D (show D ≠ w.heap.size + 1 + 1 by omega)).trans HK.out))
              have A3 := A2.kept (Bnd := D) (by have := B9.size; omega) (grownBy_putObj' _ D (.deferred none)) (fun r e => by cases e; exact ⟨Nat.le_refl _, _, hKD, rfl⟩)
              refine ⟨by simp, .inl ⟨_, _, rfl, run_takeDeferred hKD, ?_⟩⟩
              exact ⟨_, A3.out rfl rfl rfl, rfl, A3.below⟩
            · rintro D c j W hD _ ⟨rfl, hA⟩ hK
              have KA := Aside0.mk hA
              have HK := Aside0.mk hK
              clear hA hK HQ
              gi_wp2
              have A3 := KA.out.kept (Bnd := D) (by have := B9.size; omega) (grownBy_putObj' _ D (.deferred none)) (fun r e => by cases e; exact ⟨Nat.le_refl _, _, HK.out, rfl⟩)
              refine ⟨by simp, .inl ⟨_, _, rfl, run_takeDeferred HK.out, ?_⟩⟩
              exact ⟨_, A3.out rfl rfl rfl, rfl, A3.below⟩
          · rw [if_neg cr] at h
            cases h
            have crb : (r3 != 0) = true := bne_iff_ne.2 cr
            clear cr
            gi_wp2
            exact ⟨_, (KJ.out.put 0 0 r3).out rfl rfl rfl, rfl, (KJ.out.put 0 0 r3).below⟩
    · rw [if_neg ce2] at h
      cases h
      have ceb2 : (e2 != 0) = true := bne_iff_ne.2 ce2
      clear ce2
      gi_wp2
      exact ⟨_, (KH.out.put 0 0 1).out rfl rfl rfl, rfl, (KH.out.put 0 0 1).below⟩
  · rw [if_neg ce] at h
    cases h
    have ceb : (ec != 0) = true := bne_iff_ne.2 ce
    clear ce
    gi_wp2
    (try refine ⟨trivial, ?_⟩)
    (try gi_wp2)
    exact ⟨_, (KG.out.put 0 0 1).out rfl rfl rfl, rfl, (KG.out.put 0 0 1).below⟩
end Go.Proofs.Ytclgfbhkmhhenaa.Hand
