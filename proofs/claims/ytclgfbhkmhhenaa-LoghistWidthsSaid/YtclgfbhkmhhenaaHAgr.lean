/- The contract of loghist.agrees: what the Go code returns for any histogram and number. No further condition. -/
import Derived.Test.YtclgfbhkmhhenaaHCnt
import Derived.Test.YtclgfbhkmhhenaaIn
import Derived.Test.YtclgfbhkmhhenaaAA
namespace Go.Proofs.Ytclgfbhkmhhenaa.Hand
open Go.RowKit Go.Shelf Go.Proofs.YtclgfbhkmhhenaaW.PrintWords Go.Proofs.YtclgfbhkmhhenaaW.PrintMore Go.Proofs.Ytclgfbhkmhhenaa.Seq Go.Proofs.Ytclgfbhkmhhenaa.A
attribute [local go_sem] Oper.semAt_some
set_option linter.unusedVariables false
set_option linter.unusedSimpArgs false
/-- The least and the greatest sum of values, bucket by bucket. -/
def sumsG (p c s mn mx : Int) (l : List SB) : List SB → Int → Int → Option (Int × Int)
  | [], a, b => some (a, b)
  | x :: r, a, b => (loghist_possible.f p c s mn mx l x.f0 x.f1).bind fun q => sumsG p c s mn mx l r (wrap64 (a + wrap64 (q.1 * x.f1))) (wrap64 (b + wrap64 (q.2 * x.f1)))
def agrT (p c s mn mx : Int) (l : List SB) : Option Bool :=
  (sumsG p c s mn mx l l 0 0).bind fun t => (loghist_possible.f p c s mn mx l (rd_T66 l 0).f0 (rd_T66 l 0).f1).bind fun q1 => (loghist_possible.f p c s mn mx l (rd_T66 l ((l.length : Int) - 1)).f0 (rd_T66 l ((l.length : Int) - 1)).f1).bind fun q2 =>
    some (decide (wrap64 (t.1 + wrap64 (mx - q2.1)) ≤ s) && decide (s ≤ wrap64 (t.2 - wrap64 (q1.2 - mn))))
def loghist_agrees.f (k : Nat) (p c s mn mx : Int) (l : List SB) (total : Int) : Option Bool :=
  if c = total then
    (if total = 0 then some (decide (s = 0) && decide (mn = 0) && decide (mx = 0))
     else if 0 < l.length then
      (if 0 ≤ mn ∧ mn ≤ 1099511627776 ∧ 0 ≤ mx ∧ mx ≤ 1099511627776 ∧ mn ≤ mx then
        (loghist_index.f k p mn).bind fun i1 => if i1 = (rd_T66 l 0).f0 then (loghist_index.f k p mx).bind fun i2 => (if i2 = (rd_T66 l ((l.length : Int) - 1)).f0 then (if total = 1 ∧ mn ≠ mx then some false else agrT p c s mn mx l) else some false) else some false
       else some false)
     else none)
  else some false
theorem loghist_agrees.mono : ∀ a0 a1 a2 a3 a4 a5 a6 k, LeO (loghist_agrees.f k a0 a1 a2 a3 a4 a5 a6) (loghist_agrees.f (k + 1) a0 a1 a2 a3 a4 a5 a6) := by
  intro a0 a1 a2 a3 a4 a5 a6 k
  unfold loghist_agrees.f
  repeat' first
    | (with_reducible exact LeO.refl _)
    | (with_reducible exact loghist_index.mono _ _ _)
    | (with_reducible refine LeO.ite ?_ ?_)
    | (with_reducible refine LeO.bind ?_ (fun _ => ?_))
/-- What lies in memory behind the first statements of agrees. -/
structure AgB (w W : World) (b2 b5 b6 : Nat) (p c s mn mx : Int) (v : Value) (x y : SB) : Prop where
  below : Below w.heap.size w W
  k2 : W.heap[b2]? = some (.cells #[.int .i64 p, .int .i64 c, .int .i64 s, .int .i64 mn, .int .i64 mx, v] 29 (0, 0))
  k5 : W.heap[b5]? = some (.cells #[.int .i64 x.f0, .int .i64 x.f1] 66 (0, 0))
  k6 : W.heap[b6]? = some (.cells #[.int .i64 y.f0, .int .i64 y.f1] 66 (0, 0))
section
variable {w W W' : World} {b2 b5 b6 : Nat} {p c s mn mx : Int} {v : Value} {x y : SB}
theorem AgB.next (h : AgB w W b2 b5 b6 p c s mn mx v x y) (hb : Below W.heap.size W W') : AgB w W' b2 b5 b6 p c s mn mx v x y :=
  ⟨h.below.trans (hb.mono h.below.size), (hb.block _ (blk_lt h.k2)).trans h.k2, (hb.block _ (blk_lt h.k5)).trans h.k5, (hb.block _ (blk_lt h.k6)).trans h.k6⟩
theorem AgB.drewN (h : AgB w W b2 b5 b6 p c s mn mx v x y) (m : Nat) : AgB w (W.drewN m) b2 b5 b6 p c s mn mx v x y := ⟨pw_below_drewN h.below m, h.k2, h.k5, h.k6⟩
theorem AgB.cells (h : AgB w W b2 b5 b6 p c s mn mx v x y) : W.cell? ⟨b2, 0, none⟩ = some (.int .i64 p) ∧ W.cell? ⟨b2, 1, none⟩ = some (.int .i64 c) ∧ W.cell? ⟨b2, 2, none⟩ = some (.int .i64 s) ∧ W.cell? ⟨b2, 3, none⟩ = some (.int .i64 mn) ∧ W.cell? ⟨b2, 4, none⟩ = some (.int .i64 mx) ∧ W.cell? ⟨b2, 5, none⟩ = some v ∧ W.cell? ⟨b5, 0, none⟩ = some (.int .i64 x.f0) ∧ W.cell? ⟨b5, 1, none⟩ = some (.int .i64 x.f1) ∧ W.cell? ⟨b6, 0, none⟩ = some (.int .i64 y.f0) ∧ W.cell? ⟨b6, 1, none⟩ = some (.int .i64 y.f1) :=
  ⟨(blk_cell h.k2 0).trans rfl, (blk_cell h.k2 1).trans rfl, (blk_cell h.k2 2).trans rfl, (blk_cell h.k2 3).trans rfl, (blk_cell h.k2 4).trans rfl, (blk_cell h.k2 5).trans rfl, (blk_cell h.k5 0).trans rfl, (blk_cell h.k5 1).trans rfl, (blk_cell h.k6 0).trans rfl, (blk_cell h.k6 1).trans rfl⟩
theorem AgB.kept {Bnd : Nat} {row : Option Nat} (h : AgB w W b2 b5 b6 p c s mn mx v x y) (hB : w.heap.size ≤ Bnd) (hg : W.grownBy W' row) (hr : ∀ r, row = some r → Bnd ≤ r ∧ ∃ o : Obj, W.heap[r]? = some o ∧ o.isCells = false) : AgB w W' b2 b5 b6 p c s mn mx v x y :=
  ⟨h.below.grown hg h.below.size (fun k e => Nat.le_trans hB (hr k e).1), blk_kept' h.k2 hg hr, blk_kept' h.k5 hg hr, blk_kept' h.k6 hg hr⟩
theorem AgB.set (h : AgB w W b2 b5 b6 p c s mn mx v x y) {b : Nat} (hb : w.heap.size ≤ b) (h2 : b2 ≠ b) (h5 : b5 ≠ b) (h6 : b6 ≠ b) (i : Nat) (u : Value) : AgB w (W.setCell ⟨b, i, none⟩ u) b2 b5 b6 p c s mn mx v x y :=
  ⟨h.below.setCell hb _, (Below.heap_setCell _ _ _ _ h2).trans h.k2, (Below.heap_setCell _ _ _ _ h5).trans h.k5, (Below.heap_setCell _ _ _ _ h6).trans h.k6⟩
end
theorem keeps_set {B : Nat} {W Y : World} (h : KeepsFrom B W Y) {b t : Nat} {cs : Array Value} {fz : Nat × Nat} (hb : Y.heap[b]? = some (.cells cs t fz)) (i : Nat) (v : Value) : KeepsFrom B W (Y.setCell ⟨b, i, none⟩ v) :=
  ⟨by simpa using h.size, fun k o h1 h2 h3 => (Below.heap_setCell _ _ _ k (fun e => by subst e; have h4 := h.same k o h1 h2 h3; rw [hb] at h4; cases h4; cases h3)).trans (h.same k o h1 h2 h3)⟩
theorem keeps_below {W Y : World} (h : Below W.heap.size W Y) (B : Nat) : KeepsFrom B W Y := ⟨h.size, fun k o _ hk _ => (h.block k (Array.getElem?_eq_some_iff.1 hk).1).trans hk⟩
theorem isV {v : Int} (b : Bool) (hb : b = (decide (0 ≤ v) && decide (v ≤ 1099511627776))) (w : World) : Calls Try.prog 39 #[.int .i64 v] w fun e w' => e = .returned (.bool b) ∧ Drawn0 w w' := by
  refine loghist_isValue.calls v b w ?_
  unfold loghist_isValue.f
  rw [hb]
  by_cases h : 0 ≤ v <;> simp [h]
set_option maxRecDepth 100000 in
set_option maxHeartbeats 8000000 in
theorem loghist_agrees.calls (k : Nat) (a0_0 a0_1 a0_2 a0_3 a0_4 : Int) (A0_5 : Option Addr) (c0_5 : Nat) (l0_5 : List SB) (a1 : Int) (r : Bool) (w : World) (hr0_5 : Kd.C kB w A0_5 l0_5.length l0_5) (hc0_5 : l0_5.length ≤ c0_5) (h : loghist_agrees.f k a0_0 a0_1 a0_2 a0_3 a0_4 l0_5 a1 = some r) :
    Calls Try.prog 49 #[.agg #[.int .i64 a0_0, .int .i64 a0_1, .int .i64 a0_2, .int .i64 a0_3, .int .i64 a0_4, .slice A0_5 l0_5.length c0_5], .int .i64 a1] w fun e w' => e = .returned (.bool r) ∧ Below w.heap.size w w' := by
  unfold loghist_agrees.f at h
  have HB0 := Aside0.mk (Below.refl w.heap.size w)
  refine (callsIn_wide (n := 4)).1 ?_
  refine callsIn_of_wp_marks Try.func49 rfl trivial ?_ rfl
  simp only [Try.ntmps49, List.size_toArray, List.length_cons, List.length_nil, Nat.reduceAdd, Nat.reduceSub, Array.replicate_succ, Array.replicate_zero, List.push_toArray, List.append_toArray, List.nil_append, List.cons_append]
  by_cases c1 : a0_1 = a1
  · rw [if_pos c1] at h
    subst c1
    by_cases c2 : a0_1 = 0
    · rw [if_pos c2] at h
      subst c2
      have hr := Option.some.inj h
      clear h
      by_cases g1 : a0_2 = 0
      · have g1b : (a0_2 == 0) = true := beq_iff_eq.2 g1
        by_cases g2 : a0_3 = 0
        · have g2b : (a0_3 == 0) = true := beq_iff_eq.2 g2
          have hr' : r = (a0_4 == 0) := by rw [← hr, decide_eq_true g1, decide_eq_true g2]; simp [Bool.beq_eq_decide_eq]
          clear hr g1 g2
          gi_wp2
          exact ⟨_, results_tmp rfl _ _ _, by rw [hr']; rfl, HB0.out.alloc (Nat.le_refl _) _⟩
        · have g2b : (a0_3 == 0) = false := beq_eq_false_iff_ne.2 g2
          have hr' : r = false := by rw [← hr, decide_eq_false g2]; simp
          clear hr g1 g2
          gi_wp2
          exact ⟨_, results_tmp rfl _ _ _, by rw [hr']; rfl, HB0.out.alloc (Nat.le_refl _) _⟩
      · have g1b : (a0_2 == 0) = false := beq_eq_false_iff_ne.2 g1
        have hr' : r = false := by rw [← hr, decide_eq_false g1]; simp
        clear hr g1
        gi_wp2
        exact ⟨_, results_tmp rfl _ _ _, by rw [hr']; rfl, HB0.out.alloc (Nat.le_refl _) _⟩
    · rw [if_neg c2] at h
      have c2b : (a0_1 == 0) = false := beq_eq_false_iff_ne.2 c2
      by_cases c3 : 0 < l0_5.length
      · rw [if_pos c3] at h
        have hm := hr0_5.2.1
        have HR := Aside0.mk hr0_5
        have HC := Aside0.mk hc0_5
        have ff := hr0_5.2.2 c3
        obtain ⟨ad, rfl, _⟩ := ff
        generalize hx : rd_T66 l0_5 0 = x at h
        generalize hy : rd_T66 l0_5 ((l0_5.length : Int) - 1) = y at h
        have hb1 : Below w.heap.size w (w.alloc (.cells #[.int .i64 a0_0, .int .i64 a0_1, .int .i64 a0_2, .int .i64 a0_3, .int .i64 a0_4, .slice (some ad) l0_5.length c0_5] 29)) := HB0.out.alloc (Nat.le_refl _) _
        have hb2 : Below w.heap.size w ((w.alloc (.cells #[.int .i64 a0_0, .int .i64 a0_1, .int .i64 a0_2, .int .i64 a0_3, .int .i64 a0_4, .slice (some ad) l0_5.length c0_5] 29)).alloc (.cells #[.int .i64 x.f0, .int .i64 x.f1] 66)) := hb1.alloc hb1.size _
        obtain ⟨ad1, e1, r0, r1⟩ := at_T66 (Kd.C_below hr0_5 hb1) 0 (by omega) (by omega)
        cases e1
        obtain ⟨ad2, e2, s0, s1⟩ := at_T66 (Kd.C_below hr0_5 hb2) ((l0_5.length : Int) - 1) (by omega) (by omega)
        cases e2
        rw [hx] at r0 r1
        rw [hy] at s0 s1
        have HX := Aside0.mk hx
        have HY := Aside0.mk hy
        clear hr0_5 hb1 hb2 hx hy
        rw [show ((l0_5.length : Int) - 1).toNat = l0_5.length - 1 by omega] at s0 s1
        replace r0 : (w.alloc (.cells #[.int .i64 a0_0, .int .i64 a0_1, .int .i64 a0_2, .int .i64 a0_3, .int .i64 a0_4, .slice (some ad) l0_5.length c0_5] 29)).cell? ad = some (.int .i64 x.f0) := r0
        replace r1 : (w.alloc (.cells #[.int .i64 a0_0, .int .i64 a0_1, .int .i64 a0_2, .int .i64 a0_3, .int .i64 a0_4, .slice (some ad) l0_5.length c0_5] 29)).cell? ⟨ad.block, ad.off + 1, none⟩ = some (.int .i64 x.f1) := r1
        have H := Aside0.mk h
        clear h
        have p4 : (l0_5.length : Int) - 1 < (l0_5.length : Int) := by omega
        have p5 : 0 ≤ (l0_5.length : Int) - 1 := by omega
        have p6 : 1 ≤ (l0_5.length : Int) := by omega
        gi_wp2_with fail
        obtain ⟨W, hW⟩ : ∃ W, W = ((w.alloc (.cells #[.int .i64 a0_0, .int .i64 a0_1, .int .i64 a0_2, .int .i64 a0_3, .int .i64 a0_4, .slice (some ad) l0_5.length c0_5] 29)).alloc (.cells #[.int .i64 x.f0, .int .i64 x.f1] 66)).alloc (.cells #[.int .i64 y.f0, .int .i64 y.f1] 66) := ⟨_, rfl⟩
        have AG : AgB w W w.heap.size (w.heap.size + 1) (w.heap.size + 1 + 1) a0_0 a0_1 a0_2 a0_3 a0_4 (.slice (some ad) l0_5.length c0_5) x y := by
          rw [hW]
          have n1 := World.alloc_heap_new w (.cells #[.int .i64 a0_0, .int .i64 a0_1, .int .i64 a0_2, .int .i64 a0_3, .int .i64 a0_4, .slice (some ad) l0_5.length c0_5] 29)
          have n2 := World.alloc_heap_new (w.alloc (.cells #[.int .i64 a0_0, .int .i64 a0_1, .int .i64 a0_2, .int .i64 a0_3, .int .i64 a0_4, .slice (some ad) l0_5.length c0_5] 29)) (.cells #[.int .i64 x.f0, .int .i64 x.f1] 66)
          have n3 := World.alloc_heap_new ((w.alloc (.cells #[.int .i64 a0_0, .int .i64 a0_1, .int .i64 a0_2, .int .i64 a0_3, .int .i64 a0_4, .slice (some ad) l0_5.length c0_5] 29)).alloc (.cells #[.int .i64 x.f0, .int .i64 x.f1] 66)) (.cells #[.int .i64 y.f0, .int .i64 y.f1] 66)
          rw [World.size_alloc] at n2
          rw [World.size_alloc, World.size_alloc] at n3
          exact ⟨bA (bA (bA HB0.out _) _) _, blk_alloc (blk_alloc n1 _) _, blk_alloc n2 _, n3⟩
        rw [← hW]
        clear hW r0 r1 s0 s1
        have KG := Aside0.mk AG
        obtain ⟨q0, q1, q2, q3, q4, q5, q6, q7, q8, q9⟩ := AG.cells
        clear AG
        by_cases d1 : 0 ≤ a0_3 ∧ a0_3 ≤ 1099511627776
        · by_cases d2 : 0 ≤ a0_4 ∧ a0_4 ≤ 1099511627776
          · refine ⟨trivial, (callsIn_wide.2 (isV true (by simp [d1]) _)).mono ?_⟩
            rintro e w1 ⟨rfl, ⟨m1, rfl⟩⟩
            gi_wp2_with fail
            refine ⟨trivial, (callsIn_wide.2 (isV true (by simp [d2]) _)).mono ?_⟩
            rintro e w1 ⟨rfl, ⟨m2, rfl⟩⟩
            by_cases d3 : a0_3 ≤ a0_4
            · have h := H.out
              rw [if_pos ⟨d1.1, d1.2, d2.1, d2.2, d3⟩] at h
              obtain ⟨i1, hi1, h⟩ := Option.bind_eq_some_iff.1 h
              have d3b : decide (a0_4 < a0_3) = false := decide_eq_false (by omega)
              have HI1 := Aside0.mk hi1
              clear hi1
              gi_wp2_with fail
              by_cases d4 : i1 = x.f0
              · rw [if_pos d4] at h
                obtain ⟨i2, hi2, h⟩ := Option.bind_eq_some_iff.1 h
                have d4b : (i1 != x.f0) = false := bne_eq_false_iff_eq.2 d4
                have HI2 := Aside0.mk hi2
                clear hi2 d4
                by_cases d5 : i2 = y.f0
                · rw [if_pos d5] at h
                  have d5b : (i2 != y.f0) = false := bne_eq_false_iff_eq.2 d5
                  clear d5
                  refine wpIn_wide.2 ?_
                  go_quiet (first | (go_at_call 40; (with_reducible refine (loghist_index.calls k a0_0 a0_3 i1 _ HI1.out).mono ?_); rintro e w' ⟨rfl, ⟨nd, rfl⟩⟩; (try first | exact ⟨rfl, _, World.drewN_drewN _ _ _⟩ | exact ⟨rfl, _, Eq.trans (World.drewN_drewN _ _ _) (congrArg (World.drewN _) (Nat.add_assoc _ _ _))⟩)) | (go_at_call 40; (with_reducible refine (loghist_index.calls k a0_0 a0_4 i2 _ HI2.out).mono ?_); rintro e w' ⟨rfl, ⟨nd, rfl⟩⟩; (try first | exact ⟨rfl, _, World.drewN_drewN _ _ _⟩ | exact ⟨rfl, _, Eq.trans (World.drewN_drewN _ _ _) (congrArg (World.drewN _) (Nat.add_assoc _ _ _))⟩)))
                  have KG2 : Aside0 (AgB w ((W.drewN (m1 + m2)).drewN nq) w.heap.size (w.heap.size + 1) (w.heap.size + 1 + 1) a0_0 a0_1 a0_2 a0_3 a0_4 (.slice (some ad) l0_5.length c0_5) x y) := ⟨(KG.out.drewN _).drewN _⟩
                  clear q0 q1 q2 q3 q4 q5 q6 q7 q8 q9 KG
                  generalize (W.drewN (m1 + m2)).drewN nq = Wd at KG2 ⊢
                  obtain ⟨q0, q1, q2, q3, q4, q5, q6, q7, q8, q9⟩ := KG2.out.cells
                  have KG := KG2
                  clear KG2
                  by_cases d6 : a0_1 = 1 ∧ a0_3 ≠ a0_4
                  · rw [if_pos d6] at h
                    cases h
                    have d6b : (a0_1 == 1) = true := beq_iff_eq.2 d6.1
                    have d6c : (a0_3 != a0_4) = true := bne_iff_ne.2 d6.2
                    clear d6
                    gi_wp2
                    exact ⟨_, results_tmp rfl _ _ _, rfl, by (with_reducible repeat (first | exact KG.out.below | apply pw_below_drewN))⟩
                  · rw [if_neg d6] at h
                    have HH := Aside0.mk h
                    have d6c : (a0_1 == 1) = false ∨ ((a0_1 == 1) = true ∧ (a0_3 != a0_4) = false) := by
                      by_cases g : a0_1 = 1
                      · exact .inr ⟨beq_iff_eq.2 g, bne_eq_false_iff_eq.2 (Classical.byContradiction fun g2 => d6 ⟨g, g2⟩)⟩
                      · exact .inl (beq_eq_false_iff_ne.2 g)
                    clear d6 h
                    have B8 : Below Wd.heap.size Wd ((Wd.alloc (.cells #[.int .i64 0] 3)).alloc (.cells #[.int .i64 0] 3)) := bA (bA (Below.refl _ _) _) _
                    have n7 := World.alloc_heap_new Wd (.cells #[.int .i64 0] 3)
                    have n8 := World.alloc_heap_new (Wd.alloc (.cells #[.int .i64 0] 3)) (.cells #[.int .i64 0] 3)
                    rw [World.size_alloc] at n8
                    have K8 := Aside0.mk (KG.out.next B8)
                    have K78 : Aside0 (((Wd.alloc (.cells #[.int .i64 0] 3)).alloc (.cells #[.int .i64 0] 3)).heap[Wd.heap.size]? = some (.cells #[.int .i64 0] 3 (0, 0)) ∧ ((Wd.alloc (.cells #[.int .i64 0] 3)).alloc (.cells #[.int .i64 0] 3)).heap[Wd.heap.size + 1]? = some (.cells #[.int .i64 0] 3 (0, 0))) := ⟨blk_alloc n7 _, n8⟩
                    obtain ⟨z0, z1, z2, z3, z4, z5, _, _, _, _⟩ := K8.out.cells
                    clear B8 n7 n8
                    rcases d6c with d6b | ⟨d6b, d6d⟩
                    all_goals
                      gi_wp2_with fail
                      refine ⟨trivial, (counted_in _ _ _ _ _ _ _ _).mono ?_⟩
                      rintro e w' ⟨rfl, rfl⟩
                      clear z0 z1 z2 z3 z4 z5 q0 q1 q2 q3 q4 q5 q6 q7 q8 q9
                      generalize (Wd.alloc (.cells #[.int .i64 0] 3)).alloc (.cells #[.int .i64 0] 3) = W8 at K8 K78 ⊢
                      generalize hb7 : Wd.heap.size = b7 at K78 ⊢
                      have K9 : Aside0 (AgB w (W8.alloc (.cells #[.int .i64 a0_0, .int .i64 a0_1, .int .i64 a0_2, .int .i64 a0_3, .int .i64 a0_4, .slice (some ad) l0_5.length c0_5] 29)) w.heap.size (w.heap.size + 1) (w.heap.size + 1 + 1) a0_0 a0_1 a0_2 a0_3 a0_4 (.slice (some ad) l0_5.length c0_5) x y) := ⟨K8.out.next (bA (Below.refl _ _) _)⟩
                      have K79 : Aside0 ((W8.alloc (.cells #[.int .i64 a0_0, .int .i64 a0_1, .int .i64 a0_2, .int .i64 a0_3, .int .i64 a0_4, .slice (some ad) l0_5.length c0_5] 29)).heap[b7]? = some (.cells #[.int .i64 0] 3 (0, 0)) ∧ (W8.alloc (.cells #[.int .i64 a0_0, .int .i64 a0_1, .int .i64 a0_2, .int .i64 a0_3, .int .i64 a0_4, .slice (some ad) l0_5.length c0_5] 29)).heap[b7 + 1]? = some (.cells #[.int .i64 0] 3 (0, 0))) := ⟨blk_alloc K78.out.1 _, blk_alloc K78.out.2 _⟩
                      have n9 := World.alloc_heap_new W8 (.cells #[.int .i64 a0_0, .int .i64 a0_1, .int .i64 a0_2, .int .i64 a0_3, .int .i64 a0_4, .slice (some ad) l0_5.length c0_5] 29)
                      have hne7 : w.heap.size + 1 + 1 < b7 := by rw [← hb7]; exact blk_lt KG.out.k6
                      clear hb7 K8 K78
                      generalize W8.alloc (.cells #[.int .i64 a0_0, .int .i64 a0_1, .int .i64 a0_2, .int .i64 a0_3, .int .i64 a0_4, .slice (some ad) l0_5.length c0_5] 29) = W9 at K9 K79 n9 ⊢
                      gi_wp2_with fail
                      unfold agrT at HH
                      obtain ⟨t, ht, hh⟩ := Option.bind_eq_some_iff.1 HH.out
                      rw [HX.out, HY.out] at hh
                      obtain ⟨u1, hu1, hh⟩ := Option.bind_eq_some_iff.1 hh
                      obtain ⟨u2, hu2, hh⟩ := Option.bind_eq_some_iff.1 hh
                      have HT := Aside0.mk ht
                      have HU1 := Aside0.mk hu1
                      have HU2 := Aside0.mk hu2
                      have HR2 := Aside0.mk hh
                      clear ht hu1 hu2 hh HH H
                      have B9 := K9.out.below
                      have s9 : b7 + 1 < W9.heap.size := blk_lt K79.out.2
                      have n9lt : W8.heap.size < W9.heap.size := blk_lt n9
                      refine rangeFunc_LA (F := Fence.wide) rfl (by omega) (gf := 73) (lb := #[.pointer (some ⟨W8.heap.size, 0, none⟩)]) rfl trivial (enters_of Try.func73 (by kernel_rfl) rfl)
                        (counted_seq (4 - 1) (by omega) w W8.heap.size _ _ _ _ _ (some ad) c0_5 l0_5 HR.out W9 n9 (LikeAt.of_below B9)) keptAt_t
                        (fun W l o o' hl ho h1 h2 k hk => World.putObj_heap_other (by have := B9.size; omega)) (Below.refl _ _) (fun _ => rfl)
                        (fun j W => (∃ s1 s2, sumsG a0_0 a0_1 a0_2 a0_3 a0_4 l0_5 (l0_5.drop j) s1 s2 = some t ∧ W.heap[b7]? = some (.cells #[.int .i64 s1] 3 (0, 0)) ∧ W.heap[b7 + 1]? = some (.cells #[.int .i64 s2] 3 (0, 0))) ∧ AgB w W w.heap.size (w.heap.size + 1) (w.heap.size + 1 + 1) a0_0 a0_1 a0_2 a0_3 a0_4 (.slice (some ad) l0_5.length c0_5) x y)
                        (fun _ _ _ => False)
                        (fun s X Y row hs hg hr => by
                          obtain ⟨⟨s1, s2, h1, h2, h3⟩, h4⟩ := hs
                          exact ⟨⟨s1, s2, h1, blk_kept' h2 hg hr, blk_kept' h3 hg hr⟩, h4.kept B9.size hg hr⟩)
                        (fun _ _ _ _ _ hs _ _ => hs)
                        ⟨⟨0, 0, by rw [List.drop_zero]; exact HT.out, K79.out.1, K79.out.2⟩, K9.out⟩
                        ?_
                        (fun j g W => W.heap[g]? = some (.cells #[.int .i64 (rd_T66 l0_5 (j : Int)).f0, .int .i64 (rd_T66 l0_5 (j : Int)).f1] 66 (0, 0)))
                        (fun j g s X Y row hs hg hr => blk_kept' hs hg hr)
                        (fun hXs hg k hk => hg.block k (by have := B9.size; omega) (by simp)) ?_ ?_ ?_ ?_
                      rotate_left
                      · intro l j W K hj hK
                        unfold encB
                        gi_wp2
                        obtain ⟨g, hgg⟩ : ∃ g, g = W.heap.size := ⟨_, rfl⟩
                        have hfin := hK g _ (by rw [hgg]; exact World.alloc_heap_new W _) (World.grownBy_alloc W _ none) (by omega) (by rw [hgg]; simp)
                        rw [← hgg]
                        exact hfin
                      · rintro l j g W hj ⟨⟨s1, s2, hs, k7, k8⟩, hA⟩ hg hg0 hg1
                        have hdr : l0_5.drop j = rd_T66 l0_5 (j : Int) :: l0_5.drop (j + 1) := by
                          rw [List.drop_eq_getElem_cons hj]
                          congr 1
                          simp [rd_T66, List.getD, List.getElem?_eq_getElem hj]
                        rw [hdr, sumsG] at hs
                        generalize rd_T66 l0_5 (j : Int) = z at *
                        obtain ⟨⟨lo, hi⟩, hq, hs'⟩ := Option.bind_eq_some_iff.1 hs
                        have HS := Aside0.mk hs'
                        have HQ := Aside0.mk hq
                        have KA := Aside0.mk hA
                        have K7 := Aside0.mk k7
                        have K8 := Aside0.mk k8
                        have KGg := Aside0.mk hg
                        have zg0 : W.cell? ⟨g, 0, none⟩ = some (.int .i64 z.f0) := (blk_cell hg 0).trans rfl
                        have zg1 : W.cell? ⟨g, 1, none⟩ = some (.int .i64 z.f1) := (blk_cell hg 1).trans rfl
                        obtain ⟨z0, z1, z2, z3, z4, z5, _, _, _, _⟩ := hA.cells
                        clear hs hs' hq hA k7 k8 hg hdr
                        gi_wp2_with fail
                        refine ⟨trivial, (CallsIn.inRound l (callsIn_wide.2 (loghist_possible.calls a0_0 a0_1 a0_2 a0_3 a0_4 (some ad) c0_5 l0_5 z.f0 z.f1 lo hi W (Kd.C_below HR.out KA.out.below) HC.out HQ.out))).mono ?_⟩
                        rintro e Y ⟨rfl, hb⟩
                        have KY := Aside0.mk (KA.out.next hb)
                        have y7 := (hb.block _ (blk_lt K7.out)).trans K7.out
                        have y8 := (hb.block _ (blk_lt K8.out)).trans K8.out
                        have zg1 : Y.cell? ⟨g, 1, none⟩ = some (.int .i64 z.f1) := (blk_cell ((hb.block _ (blk_lt KGg.out)).trans KGg.out) 1).trans rfl
                        have yc7 : Y.cell? ⟨b7, 0, none⟩ = some (.int .i64 s1) := (blk_cell y7 0).trans rfl
                        have yc8 : Y.cell? ⟨b7 + 1, 0, none⟩ = some (.int .i64 s2) := (blk_cell y8 0).trans rfl
                        have yf7 := blk_frozen y7 0
                        have yf8 := blk_frozen y8 0
                        have Y7 := Aside0.mk y7
                        have Y8 := Aside0.mk y8
                        have HBW := Aside0.mk hb
                        clear y7 y8 hb zg0 z0 z1 z2 z3 z4 z5
                        gi_wp2
                        have A1 := (KY.out.set (b := b7) (by omega) (by omega) (by omega) (by omega) 0 (.int .i64 (wrap64 (s1 + wrap64 (lo * z.f1))))).set (b := b7 + 1) (by omega) (by omega) (by omega) (by omega) 0 (.int .i64 (wrap64 (s2 + wrap64 (hi * z.f1))))
                        have p8 := (Below.heap_setCell Y ⟨b7, 0, none⟩ (.int .i64 (wrap64 (s1 + wrap64 (lo * z.f1)))) (b7 + 1) (show b7 + 1 ≠ b7 by omega)).trans Y8.out
                        exact ⟨keeps_set (keeps_set (keeps_below HBW.out _) Y7.out 0 _) p8 0 _, fun k hk => (A1.below.block k hk).trans (KA.out.below.block k hk).symm, ⟨_, _, HS.out, (Below.heap_setCell _ _ _ b7 (show b7 ≠ b7 + 1 by omega)).trans (blk_put Y7.out 0 _ rfl), blk_put p8 0 _ rfl⟩, A1⟩
                      · rintro D W hD ⟨⟨s1, s2, hs, k7, k8⟩, hA⟩ hK
                        rw [List.drop_length, sumsG] at hs
                        cases hs
                        have hr := HR2.out
                        dsimp only at hr
                        have hr' := Option.some.inj hr
                        obtain ⟨v1a, v1b⟩ := u1
                        obtain ⟨v2a, v2b⟩ := u2
                        dsimp only at hr'
                        have HR3 := Aside0.mk hr'
                        have KA := Aside0.mk hA
                        have K7 := Aside0.mk k7
                        have K8 := Aside0.mk k8
                        have HK := Aside0.mk hK
                        obtain ⟨z0, z1, z2, z3, z4, z5, z6, z7, _, _⟩ := hA.cells
                        clear hr hr' HR2 hA k7 k8 hK
                        gi_wp2_with fail
                        refine ⟨trivial, (callsIn_wide.2 (loghist_possible.calls a0_0 a0_1 a0_2 a0_3 a0_4 (some ad) c0_5 l0_5 x.f0 x.f1 v1a v1b W (Kd.C_below HR.out KA.out.below) HC.out HU1.out)).mono ?_⟩
                        rintro e Y1 ⟨rfl, hb⟩
                        have KA1 := Aside0.mk (KA.out.next hb)
                        have y7 := Aside0.mk ((hb.block _ (blk_lt K7.out)).trans K7.out)
                        have y8 := Aside0.mk ((hb.block _ (blk_lt K8.out)).trans K8.out)
                        have yK := Aside0.mk ((hb.block _ (Array.getElem?_eq_some_iff.1 HK.out).1).trans HK.out)
                        clear z0 z1 z2 z3 z4 z5 z6 z7 hb KA K7 K8 HK
                        obtain ⟨z0, z1, z2, z3, z4, z5, _, _, z8, z9⟩ := KA1.out.cells
                        gi_wp2_with fail
                        refine ⟨trivial, (callsIn_wide.2 (loghist_possible.calls a0_0 a0_1 a0_2 a0_3 a0_4 (some ad) c0_5 l0_5 y.f0 y.f1 v2a v2b Y1 (Kd.C_below HR.out KA1.out.below) HC.out HU2.out)).mono ?_⟩
                        rintro e Y2 ⟨rfl, hb⟩
                        have KA2 := Aside0.mk (KA1.out.next hb)
                        have x7 := (hb.block _ (blk_lt y7.out)).trans y7.out
                        have x8 := (hb.block _ (blk_lt y8.out)).trans y8.out
                        have xK := (hb.block _ (Array.getElem?_eq_some_iff.1 yK.out).1).trans yK.out
                        clear z0 z1 z2 z3 z4 z5 z8 z9 hb
                        obtain ⟨z0, z1, z2, z3, z4, z5, _, _, _, _⟩ := KA2.out.cells
                        have yc7 : Y2.cell? ⟨b7, 0, none⟩ = some (.int .i64 s1) := (blk_cell x7 0).trans rfl
                        have yc8 : Y2.cell? ⟨b7 + 1, 0, none⟩ = some (.int .i64 s2) := (blk_cell x8 0).trans rfl
                        have yf7 := blk_frozen x7 0
                        have yf8 := blk_frozen x8 0
                        have XK := Aside0.mk xK
                        clear x7 x8 xK y7 y8 yK KA1
                        have hne8 : w.heap.size ≠ b7 ∧ w.heap.size ≠ b7 + 1 := by omega
                        by_cases g1 : wrap64 (s1 + wrap64 (a0_4 - v2a)) ≤ a0_2
                        · have g1b : decide (wrap64 (s1 + wrap64 (a0_4 - v2a)) ≤ a0_2) = true := decide_eq_true g1
                          gi_wp2
                          have A2 := (KA2.out.set (b := b7) (by omega) (by omega) (by omega) (by omega) 0 (.int .i64 (wrap64 (s1 + wrap64 (a0_4 - v2a))))).set (b := b7 + 1) (by omega) (by omega) (by omega) (by omega) 0 (.int .i64 (wrap64 (s2 - wrap64 (v1b - a0_3))))
                          have hKD : ((Y2.setCell ⟨b7, 0, none⟩ (.int .i64 (wrap64 (s1 + wrap64 (a0_4 - v2a))))).setCell ⟨b7 + 1, 0, none⟩ (.int .i64 (wrap64 (s2 - wrap64 (v1b - a0_3))))).heap[D]? = some (.deferred (some [])) := (Below.heap_setCell _ _ _ D (show D ≠ b7 + 1 by omega)).trans ((Below.heap_setCell _ _ _ D (show D ≠ b7 by omega)).trans XK.out)
                          refine ⟨by simp, .inl ⟨_, _, rfl, run_takeDeferred hKD, ?_⟩⟩
                          exact ⟨_, results_tmp rfl _ _ _, by rw [← HR3.out, g1b, Bool.true_and]; rfl, (A2.kept (Bnd := D) (by have := B9.size; omega) (grownBy_putObj' _ D (.deferred none)) (fun r e => by cases e; exact ⟨Nat.le_refl _, _, hKD, rfl⟩)).below⟩
                        · have g1b : decide (wrap64 (s1 + wrap64 (a0_4 - v2a)) ≤ a0_2) = false := decide_eq_false g1
                          gi_wp2
                          have A2 := (KA2.out.set (b := b7) (by omega) (by omega) (by omega) (by omega) 0 (.int .i64 (wrap64 (s1 + wrap64 (a0_4 - v2a))))).set (b := b7 + 1) (by omega) (by omega) (by omega) (by omega) 0 (.int .i64 (wrap64 (s2 - wrap64 (v1b - a0_3))))
                          have hKD : ((Y2.setCell ⟨b7, 0, none⟩ (.int .i64 (wrap64 (s1 + wrap64 (a0_4 - v2a))))).setCell ⟨b7 + 1, 0, none⟩ (.int .i64 (wrap64 (s2 - wrap64 (v1b - a0_3))))).heap[D]? = some (.deferred (some [])) := (Below.heap_setCell _ _ _ D (show D ≠ b7 + 1 by omega)).trans ((Below.heap_setCell _ _ _ D (show D ≠ b7 by omega)).trans XK.out)
                          refine ⟨by simp, .inl ⟨_, _, rfl, run_takeDeferred hKD, ?_⟩⟩
                          exact ⟨_, results_tmp rfl _ _ _, by rw [← HR3.out, g1b, Bool.false_and]; rfl, (A2.kept (Bnd := D) (by have := B9.size; omega) (grownBy_putObj' _ D (.deferred none)) (fun r e => by cases e; exact ⟨Nat.le_refl _, _, hKD, rfl⟩)).below⟩
                      · rintro D c j W _ _ h _
                        exact h.elim
                · rw [if_neg d5] at h
                  cases h
                  have d5b : (i2 != y.f0) = true := bne_iff_ne.2 d5
                  clear d5
                  refine wpIn_wide.2 ?_
                  go_quiet (first | (go_at_call 40; (with_reducible refine (loghist_index.calls k a0_0 a0_3 i1 _ HI1.out).mono ?_); rintro e w' ⟨rfl, ⟨nd, rfl⟩⟩; (try first | exact ⟨rfl, _, World.drewN_drewN _ _ _⟩ | exact ⟨rfl, _, Eq.trans (World.drewN_drewN _ _ _) (congrArg (World.drewN _) (Nat.add_assoc _ _ _))⟩)) | (go_at_call 40; (with_reducible refine (loghist_index.calls k a0_0 a0_4 i2 _ HI2.out).mono ?_); rintro e w' ⟨rfl, ⟨nd, rfl⟩⟩; (try first | exact ⟨rfl, _, World.drewN_drewN _ _ _⟩ | exact ⟨rfl, _, Eq.trans (World.drewN_drewN _ _ _) (congrArg (World.drewN _) (Nat.add_assoc _ _ _))⟩)))
                  gi_wp2
                  exact ⟨_, results_tmp rfl _ _ _, rfl, by (with_reducible repeat (first | exact KG.out.below | apply pw_below_drewN))⟩
              · rw [if_neg d4] at h
                cases h
                have d4b : (i1 != x.f0) = true := bne_iff_ne.2 d4
                clear d4
                refine wpIn_wide.2 ?_
                go_quiet (first | (go_at_call 40; (with_reducible refine (loghist_index.calls k a0_0 a0_3 i1 _ HI1.out).mono ?_); rintro e w' ⟨rfl, ⟨nd, rfl⟩⟩; (try first | exact ⟨rfl, _, World.drewN_drewN _ _ _⟩ | exact ⟨rfl, _, Eq.trans (World.drewN_drewN _ _ _) (congrArg (World.drewN _) (Nat.add_assoc _ _ _))⟩)))
                gi_wp2
                exact ⟨_, results_tmp rfl _ _ _, rfl, by (with_reducible repeat (first | exact KG.out.below | apply pw_below_drewN))⟩
            · have h := H.out
              rw [if_neg (fun hh => d3 hh.2.2.2.2)] at h
              cases h
              have d3b : decide (a0_4 < a0_3) = true := decide_eq_true (by omega)
              gi_wp2
              exact ⟨_, results_tmp rfl _ _ _, rfl, by (with_reducible repeat (first | exact KG.out.below | apply pw_below_drewN))⟩
          · have h := H.out
            rw [if_neg (fun hh => d2 ⟨hh.2.2.1, hh.2.2.2.1⟩)] at h
            cases h
            refine ⟨trivial, (callsIn_wide.2 (isV true (by simp [d1]) _)).mono ?_⟩
            rintro e w1 ⟨rfl, ⟨m1, rfl⟩⟩
            gi_wp2_with fail
            refine ⟨trivial, (callsIn_wide.2 (isV false (by by_cases hh : 0 ≤ a0_4 <;> simp [hh] <;> omega) _)).mono ?_⟩
            rintro e w1 ⟨rfl, ⟨m2, rfl⟩⟩
            gi_wp2
            exact ⟨_, results_tmp rfl _ _ _, rfl, by (with_reducible repeat (first | exact KG.out.below | apply pw_below_drewN))⟩
        · have h := H.out
          rw [if_neg (fun hh => d1 ⟨hh.1, hh.2.1⟩)] at h
          cases h
          refine ⟨trivial, (callsIn_wide.2 (isV false (by by_cases hh : 0 ≤ a0_3 <;> simp [hh] <;> omega) _)).mono ?_⟩
          rintro e w1 ⟨rfl, ⟨m1, rfl⟩⟩
          gi_wp2
          (try refine ⟨trivial, ?_⟩)
          (try gi_wp2)
          exact ⟨_, results_tmp rfl _ _ _, rfl, by (with_reducible repeat (first | exact KG.out.below | apply pw_below_drewN))⟩
      · rw [if_neg c3] at h; cases h
  · rw [if_neg c1] at h
    cases h
    have c1b : (a0_1 != a1) = true := bne_iff_ne.2 c1
    clear c1
    gi_wp2
    exact ⟨_, results_tmp rfl _ _ _, rfl, HB0.out.alloc (Nat.le_refl _) _⟩
end Go.Proofs.Ytclgfbhkmhhenaa.Hand
