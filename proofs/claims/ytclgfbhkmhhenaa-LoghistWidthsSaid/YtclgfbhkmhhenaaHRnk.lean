/- The contract of loghist.Rank: what the Go code returns for any histogram and number. No further condition. -/
import Derived.Test.YtclgfbhkmhhenaaHAgr
import Derived.Test.YtclgfbhkmhhenaaHMul
import Derived.Test.YtclgfbhkmhhenaaBA
import Derived.Deep.QuietTactic
import Derived.BigQuiet
namespace Go.Proofs.Ytclgfbhkmhhenaa.Hand
open Go.RowKit Go.Shelf Go.Proofs.YtclgfbhkmhhenaaW.PrintWords Go.Proofs.YtclgfbhkmhhenaaW.PrintMore Go.Proofs.Ytclgfbhkmhhenaa.Seq Go.Proofs.Ytclgfbhkmhhenaa.A Go.Proofs.Ytclgfbhkmhhenaa.B
attribute [local go_sem] Oper.semAt_some
set_option linter.unusedVariables false
set_option linter.unusedSimpArgs false
def rankG (p c s mn mx : Int) (l : List SB) (x : Int) : Nat → List SB → Int → Int → Option (Int × Int)
  | _, [], a, b => some (a, b)
  | i, y :: r, a, b => (loghist_possible.f p c s mn mx l y.f0 y.f1).bind fun q => rankG p c s mn mx l x (i + 1) r (if q.2 ≤ x then upF l (i + 1) else a) (if q.1 ≤ x then upF l (i + 1) else b)
def loghist_Rank.f (k : Nat) (p c s mn mx : Int) (l : List SB) (x : Int) : Option (Int × Int × Int) :=
  (loghist_Check.f k p c s mn mx l).bind fun e => if e = 0 then ((rankG p c s mn mx l x 0 l 0 0).bind fun r => some (r.1, r.2, 0)) else some (0, 0, 1)
theorem loghist_Rank.mono : ∀ a0 a1 a2 a3 a4 a5 a6 k, LeO (loghist_Rank.f k a0 a1 a2 a3 a4 a5 a6) (loghist_Rank.f (k + 1) a0 a1 a2 a3 a4 a5 a6) := by
  intro a0 a1 a2 a3 a4 a5 a6 k
  unfold loghist_Rank.f
  exact LeO.bind (loghist_Check.mono _ _ _ _ _ _ _) (fun e => LeO.refl _)
/-- What lies in memory: a histogram and a number. -/
structure RkB (w W : World) (b2 b3 : Nat) (p c s mn mx : Int) (v : Value) (x : Int) : Prop where
  below : Below w.heap.size w W
  k2 : W.heap[b2]? = some (.cells #[.int .i64 p, .int .i64 c, .int .i64 s, .int .i64 mn, .int .i64 mx, v] 29 (0, 0))
  k3 : W.heap[b3]? = some (.cells #[.int .i64 x] 3 (0, 0))
section
variable {w W W' : World} {b2 b3 : Nat} {p c s mn mx x : Int} {v : Value}
theorem RkB.next (h : RkB w W b2 b3 p c s mn mx v x) (hb : Below W.heap.size W W') : RkB w W' b2 b3 p c s mn mx v x :=
  ⟨h.below.trans (hb.mono h.below.size), (hb.block _ (blk_lt h.k2)).trans h.k2, (hb.block _ (blk_lt h.k3)).trans h.k3⟩
theorem RkB.cells (h : RkB w W b2 b3 p c s mn mx v x) : W.cell? ⟨b2, 0, none⟩ = some (.int .i64 p) ∧ W.cell? ⟨b2, 1, none⟩ = some (.int .i64 c) ∧ W.cell? ⟨b2, 2, none⟩ = some (.int .i64 s) ∧ W.cell? ⟨b2, 3, none⟩ = some (.int .i64 mn) ∧ W.cell? ⟨b2, 4, none⟩ = some (.int .i64 mx) ∧ W.cell? ⟨b2, 5, none⟩ = some v ∧ W.cell? ⟨b3, 0, none⟩ = some (.int .i64 x) :=
  ⟨(blk_cell h.k2 0).trans rfl, (blk_cell h.k2 1).trans rfl, (blk_cell h.k2 2).trans rfl, (blk_cell h.k2 3).trans rfl, (blk_cell h.k2 4).trans rfl, (blk_cell h.k2 5).trans rfl, (blk_cell h.k3 0).trans rfl⟩
theorem RkB.kept {Bnd : Nat} {row : Option Nat} (h : RkB w W b2 b3 p c s mn mx v x) (hB : w.heap.size ≤ Bnd) (hg : W.grownBy W' row) (hr : ∀ r, row = some r → Bnd ≤ r ∧ ∃ o : Obj, W.heap[r]? = some o ∧ o.isCells = false) : RkB w W' b2 b3 p c s mn mx v x :=
  ⟨h.below.grown hg h.below.size (fun k e => Nat.le_trans hB (hr k e).1), blk_kept' h.k2 hg hr, blk_kept' h.k3 hg hr⟩
theorem RkB.set (h : RkB w W b2 b3 p c s mn mx v x) {b : Nat} (hb : w.heap.size ≤ b) (h2 : b2 ≠ b) (h3 : b3 ≠ b) (i : Nat) (u : Value) : RkB w (W.setCell ⟨b, i, none⟩ u) b2 b3 p c s mn mx v x :=
  ⟨h.below.setCell hb _, (Below.heap_setCell _ _ _ _ h2).trans h.k2, (Below.heap_setCell _ _ _ _ h3).trans h.k3⟩
end
set_option maxRecDepth 100000 in
set_option maxHeartbeats 8000000 in
theorem loghist_Rank.calls (k : Nat) (a0_0 a0_1 a0_2 a0_3 a0_4 : Int) (A0_5 : Option Addr) (c0_5 : Nat) (l0_5 : List SB) (a1 : Int) (r1 r2 r3 : Int) (w : World) (hr0_5 : Kd.C kB w A0_5 l0_5.length l0_5) (hc0_5 : l0_5.length ≤ c0_5) (h : loghist_Rank.f k a0_0 a0_1 a0_2 a0_3 a0_4 l0_5 a1 = some (r1, r2, r3)) :
    Calls Try.prog 31 #[.agg #[.int .i64 a0_0, .int .i64 a0_1, .int .i64 a0_2, .int .i64 a0_3, .int .i64 a0_4, .slice A0_5 l0_5.length c0_5], .int .i64 a1] w fun e w' => e = .returned (.tuple #[.int .i64 r1, .int .i64 r2, .int .i64 r3]) ∧ Below w.heap.size w w' := by
  unfold loghist_Rank.f at h
  obtain ⟨ec, hec, h⟩ := Option.bind_eq_some_iff.1 h
  have HB0 := Aside0.mk (Below.refl w.heap.size w)
  have HR := Aside0.mk hr0_5
  have HC := Aside0.mk hc0_5
  have HE := Aside0.mk hec
  clear hr0_5 hec
  refine (callsIn_wide (n := 4)).1 ?_
  refine callsIn_of_wp_marks Try.func31 rfl trivial ?_ rfl
  simp only [Try.ntmps31, List.size_toArray, List.length_cons, List.length_nil, Nat.reduceAdd, Nat.reduceSub, Array.replicate_succ, Array.replicate_zero, List.push_toArray, List.append_toArray, List.nil_append, List.cons_append]
  gi_wp2_with fail
  have n1 := World.alloc_heap_new w (.cells #[.int .i64 a0_0, .int .i64 a0_1, .int .i64 a0_2, .int .i64 a0_3, .int .i64 a0_4, .slice A0_5 l0_5.length c0_5] 29)
  have n2 := World.alloc_heap_new (w.alloc (.cells #[.int .i64 a0_0, .int .i64 a0_1, .int .i64 a0_2, .int .i64 a0_3, .int .i64 a0_4, .slice A0_5 l0_5.length c0_5] 29)) (.cells #[.int .i64 a1] 3)
  rw [World.size_alloc] at n2
  have K0 : Aside0 (RkB w ((w.alloc (.cells #[.int .i64 a0_0, .int .i64 a0_1, .int .i64 a0_2, .int .i64 a0_3, .int .i64 a0_4, .slice A0_5 l0_5.length c0_5] 29)).alloc (.cells #[.int .i64 a1] 3)) w.heap.size (w.heap.size + 1) a0_0 a0_1 a0_2 a0_3 a0_4 (.slice A0_5 l0_5.length c0_5) a1) := ⟨bA (bA HB0.out _) _, blk_alloc n1 _, n2⟩
  clear n1 n2
  generalize (w.alloc (.cells #[.int .i64 a0_0, .int .i64 a0_1, .int .i64 a0_2, .int .i64 a0_3, .int .i64 a0_4, .slice A0_5 l0_5.length c0_5] 29)).alloc (.cells #[.int .i64 a1] 3) = W0 at K0 ⊢
  refine ⟨trivial, (callsIn_wide.2 (loghist_Check.calls k a0_0 a0_1 a0_2 a0_3 a0_4 A0_5 c0_5 l0_5 ec W0 (Kd.C_below HR.out K0.out.below) HC.out HE.out)).mono ?_⟩
  rintro e W ⟨rfl, hb⟩
  have KG := Aside0.mk (K0.out.next hb)
  clear hb K0
  obtain ⟨q0, q1, q2, q3, q4, q5, q6⟩ := KG.out.cells
  by_cases ce : ec = 0
  · rw [if_pos ce] at h
    have ceb : (ec != 0) = false := bne_eq_false_iff_eq.2 ce
    obtain ⟨⟨t1, t2⟩, ht, h⟩ := Option.bind_eq_some_iff.1 h
    cases h
    have HT := Aside0.mk ht
    clear ce ht
    have B8 : Below W.heap.size W ((W.alloc (.cells #[.int .i64 0] 3)).alloc (.cells #[.int .i64 0] 3)) := bA (bA (Below.refl _ _) _) _
    have n7 := World.alloc_heap_new W (.cells #[.int .i64 0] 3)
    have n8 := World.alloc_heap_new (W.alloc (.cells #[.int .i64 0] 3)) (.cells #[.int .i64 0] 3)
    rw [World.size_alloc] at n8
    have K8 := Aside0.mk (KG.out.next B8)
    have K78 : Aside0 (((W.alloc (.cells #[.int .i64 0] 3)).alloc (.cells #[.int .i64 0] 3)).heap[W.heap.size]? = some (.cells #[.int .i64 0] 3 (0, 0)) ∧ ((W.alloc (.cells #[.int .i64 0] 3)).alloc (.cells #[.int .i64 0] 3)).heap[W.heap.size + 1]? = some (.cells #[.int .i64 0] 3 (0, 0))) := ⟨blk_alloc n7 _, n8⟩
    obtain ⟨z0, z1, z2, z3, z4, z5, z6⟩ := K8.out.cells
    clear B8 n7 n8
    gi_wp2_with fail
    refine ⟨trivial, (counted_in _ _ _ _ _ _ _ _).mono ?_⟩
    rintro e w' ⟨rfl, rfl⟩
    clear z0 z1 z2 z3 z4 z5 z6 q0 q1 q2 q3 q4 q5 q6
    generalize (W.alloc (.cells #[.int .i64 0] 3)).alloc (.cells #[.int .i64 0] 3) = W8 at K8 K78 ⊢
    generalize hb7 : W.heap.size = b7 at K78 ⊢
    have K9 : Aside0 (RkB w (W8.alloc (.cells #[.int .i64 a0_0, .int .i64 a0_1, .int .i64 a0_2, .int .i64 a0_3, .int .i64 a0_4, .slice A0_5 l0_5.length c0_5] 29)) w.heap.size (w.heap.size + 1) a0_0 a0_1 a0_2 a0_3 a0_4 (.slice A0_5 l0_5.length c0_5) a1) := ⟨K8.out.next (bA (Below.refl _ _) _)⟩
    have K79 : Aside0 ((W8.alloc (.cells #[.int .i64 a0_0, .int .i64 a0_1, .int .i64 a0_2, .int .i64 a0_3, .int .i64 a0_4, .slice A0_5 l0_5.length c0_5] 29)).heap[b7]? = some (.cells #[.int .i64 0] 3 (0, 0)) ∧ (W8.alloc (.cells #[.int .i64 a0_0, .int .i64 a0_1, .int .i64 a0_2, .int .i64 a0_3, .int .i64 a0_4, .slice A0_5 l0_5.length c0_5] 29)).heap[b7 + 1]? = some (.cells #[.int .i64 0] 3 (0, 0))) := ⟨blk_alloc K78.out.1 _, blk_alloc K78.out.2 _⟩
    have n9 := World.alloc_heap_new W8 (.cells #[.int .i64 a0_0, .int .i64 a0_1, .int .i64 a0_2, .int .i64 a0_3, .int .i64 a0_4, .slice A0_5 l0_5.length c0_5] 29)
    have hne7 : w.heap.size + 1 < b7 := by rw [← hb7]; exact blk_lt KG.out.k3
    clear hb7 K8 K78
    generalize W8.alloc (.cells #[.int .i64 a0_0, .int .i64 a0_1, .int .i64 a0_2, .int .i64 a0_3, .int .i64 a0_4, .slice A0_5 l0_5.length c0_5] 29) = W9 at K9 K79 n9 ⊢
    gi_wp2_with fail
    have B9 := K9.out.below
    have s9 : b7 + 1 < W9.heap.size := blk_lt K79.out.2
    have n9lt : W8.heap.size < W9.heap.size := blk_lt n9
    refine rangeFunc_LA (F := Fence.wide) rfl (by omega) (gf := 73) (lb := #[.pointer (some ⟨W8.heap.size, 0, none⟩)]) rfl trivial (enters_of Try.func73 (by kernel_rfl) rfl)
      (counted_seq (4 - 1) (by omega) w W8.heap.size _ _ _ _ _ A0_5 c0_5 l0_5 HR.out W9 n9 (LikeAt.of_below B9)) keptAt_t
      (fun W l o o' hl ho h1 h2 k hk => World.putObj_heap_other (by have := B9.size; omega)) (Below.refl _ _) (fun _ => rfl)
      (fun j W => (∃ s1 s2, rankG a0_0 a0_1 a0_2 a0_3 a0_4 l0_5 a1 j (l0_5.drop j) s1 s2 = some (t1, t2) ∧ W.heap[b7]? = some (.cells #[.int .i64 s1] 3 (0, 0)) ∧ W.heap[b7 + 1]? = some (.cells #[.int .i64 s2] 3 (0, 0))) ∧ RkB w W w.heap.size (w.heap.size + 1) a0_0 a0_1 a0_2 a0_3 a0_4 (.slice A0_5 l0_5.length c0_5) a1)
      (fun _ _ _ => False)
      (fun s X Y row hs hg hr => by
        obtain ⟨⟨s1, s2, h1, h2, h3⟩, h4⟩ := hs
        exact ⟨⟨s1, s2, h1, blk_kept' h2 hg hr, blk_kept' h3 hg hr⟩, h4.kept B9.size hg hr⟩)
      (fun _ _ _ _ _ hs _ _ => hs)
      ⟨⟨0, 0, by rw [List.drop_zero]; exact HT.out, K79.out.1, K79.out.2⟩, K9.out⟩
      ?_
      (fun j g W => W.heap[g]? = some (.cells #[.int .i64 (rd_T66 l0_5 (j : Int)).f0, .int .i64 (rd_T66 l0_5 (j : Int)).f1] 66 (0, 0)))
      (fun j g s X Y row hs hg hr => blk_kept' hs hg hr)
      (fun hXs hg k hk => hg.block k (by have := B9.size; omega) (by simp)) ?_ ?_ ?_ ?_
    rotate_left
    · intro l j W K hj hK
      unfold encB
      gi_wp2
      obtain ⟨g, hgg⟩ : ∃ g, g = W.heap.size := ⟨_, rfl⟩
      have hfin := hK g _ (by rw [hgg]; exact World.alloc_heap_new W _) (World.grownBy_alloc W _ none) (by omega) (by rw [hgg]; simp)
      rw [← hgg]
      exact hfin
    · rintro l j g W hj ⟨⟨s1, s2, hs, k7, k8⟩, hA⟩ hg hg0 hg1
      have hdr : l0_5.drop j = rd_T66 l0_5 (j : Int) :: l0_5.drop (j + 1) := by
        rw [List.drop_eq_getElem_cons hj]
        congr 1
        simp [rd_T66, List.getD, List.getElem?_eq_getElem hj]
      rw [hdr, rankG] at hs
      generalize rd_T66 l0_5 (j : Int) = z at *
      generalize upF l0_5 (j + 1) = u at *
      obtain ⟨⟨lo, hi⟩, hq, hs'⟩ := Option.bind_eq_some_iff.1 hs
      dsimp only at hs'
      have HS := Aside0.mk hs'
      have HQ := Aside0.mk hq
      have KA := Aside0.mk hA
      have K7 := Aside0.mk k7
      have K8 := Aside0.mk k8
      have zg0 : W.cell? ⟨g, 0, none⟩ = some (.int .i64 z.f0) := (blk_cell hg 0).trans rfl
      have zg1 : W.cell? ⟨g, 1, none⟩ = some (.int .i64 z.f1) := (blk_cell hg 1).trans rfl
      obtain ⟨z0, z1, z2, z3, z4, z5, _⟩ := hA.cells
      clear hs hs' hq hA k7 k8 hg hdr
      gi_wp2_with fail
      refine ⟨trivial, (CallsIn.inRound l (callsIn_wide.2 (loghist_possible.calls a0_0 a0_1 a0_2 a0_3 a0_4 A0_5 c0_5 l0_5 z.f0 z.f1 lo hi W (Kd.C_below HR.out KA.out.below) HC.out HQ.out))).mono ?_⟩
      rintro e Y ⟨rfl, hb⟩
      have KY := Aside0.mk (KA.out.next hb)
      have y7 := (hb.block _ (blk_lt K7.out)).trans K7.out
      have y8 := (hb.block _ (blk_lt K8.out)).trans K8.out
      obtain ⟨_, _, _, _, _, _, y6⟩ := KY.out.cells
      have yc7 : Y.cell? ⟨b7, 0, none⟩ = some (.int .i64 s1) := (blk_cell y7 0).trans rfl
      have yc8 : Y.cell? ⟨b7 + 1, 0, none⟩ = some (.int .i64 s2) := (blk_cell y8 0).trans rfl
      have yf7 := blk_frozen y7 0
      have yf8 := blk_frozen y8 0
      have Y7 := Aside0.mk y7
      have Y8 := Aside0.mk y8
      have HBW := Aside0.mk hb
      clear y7 y8 hb zg0 zg1 z0 z1 z2 z3 z4 z5
      have hne8 : w.heap.size + 1 ≠ b7 ∧ w.heap.size + 1 ≠ b7 + 1 := by omega
      by_cases g1 : hi ≤ a1
      · by_cases g2 : lo ≤ a1
        · have g1b : decide (hi ≤ a1) = true := decide_eq_true g1
          have g2b : decide (lo ≤ a1) = true := decide_eq_true g2
          have hs := HS.out
          rw [if_pos g1, if_pos g2] at hs
          have HS2 := Aside0.mk hs
          clear hs HS g1 g2
          gi_wp2
          have A1 := (KY.out.set (b := b7) (by omega) (by omega) (by omega) 0 (.int .i64 u)).set (b := b7 + 1) (by omega) (by omega) (by omega) 0 (.int .i64 u)
          have p8 := (Below.heap_setCell Y ⟨b7, 0, none⟩ (.int .i64 u) (b7 + 1) (show b7 + 1 ≠ b7 by omega)).trans Y8.out
          exact ⟨keeps_set (keeps_set (keeps_below HBW.out _) Y7.out 0 _) p8 0 _, fun k hk => (A1.below.block k hk).trans (KA.out.below.block k hk).symm, ⟨_, _, HS2.out, (Below.heap_setCell _ _ _ b7 (show b7 ≠ b7 + 1 by omega)).trans (blk_put Y7.out 0 _ rfl), blk_put p8 0 _ rfl⟩, A1⟩
        · have g1b : decide (hi ≤ a1) = true := decide_eq_true g1
          have g2b : decide (lo ≤ a1) = false := decide_eq_false g2
          have hs := HS.out
          rw [if_pos g1, if_neg g2] at hs
          have HS2 := Aside0.mk hs
          clear hs HS g1 g2
          gi_wp2
          have A1 := KY.out.set (b := b7) (by omega) (by omega) (by omega) 0 (.int .i64 u)
          have p8 := (Below.heap_setCell Y ⟨b7, 0, none⟩ (.int .i64 u) (b7 + 1) (show b7 + 1 ≠ b7 by omega)).trans Y8.out
          exact ⟨keeps_set (keeps_below HBW.out _) Y7.out 0 _, fun k hk => (A1.below.block k hk).trans (KA.out.below.block k hk).symm, ⟨_, _, HS2.out, blk_put Y7.out 0 _ rfl, p8⟩, A1⟩
      · by_cases g2 : lo ≤ a1
        · have g1b : decide (hi ≤ a1) = false := decide_eq_false g1
          have g2b : decide (lo ≤ a1) = true := decide_eq_true g2
          have hs := HS.out
          rw [if_neg g1, if_pos g2] at hs
          have HS2 := Aside0.mk hs
          clear hs HS g1 g2
          gi_wp2
          have A1 := KY.out.set (b := b7 + 1) (by omega) (by omega) (by omega) 0 (.int .i64 u)
          exact ⟨keeps_set (keeps_below HBW.out _) Y8.out 0 _, fun k hk => (A1.below.block k hk).trans (KA.out.below.block k hk).symm, ⟨_, _, HS2.out, (Below.heap_setCell _ _ _ b7 (show b7 ≠ b7 + 1 by omega)).trans Y7.out, blk_put Y8.out 0 _ rfl⟩, A1⟩
        · have g1b : decide (hi ≤ a1) = false := decide_eq_false g1
          have g2b : decide (lo ≤ a1) = false := decide_eq_false g2
          have hs := HS.out
          rw [if_neg g1, if_neg g2] at hs
          have HS2 := Aside0.mk hs
          clear hs HS g1 g2
          gi_wp2
          exact ⟨keeps_below HBW.out _, fun k hk => (KY.out.below.block k hk).trans (KA.out.below.block k hk).symm, ⟨_, _, HS2.out, Y7.out, Y8.out⟩, KY.out⟩
    · rintro D W hD ⟨⟨s1, s2, hs, k7, k8⟩, hA⟩ hK
      rw [List.drop_length, rankG] at hs
      cases hs
      have KA := Aside0.mk hA
      have HK := Aside0.mk hK
      have yc7 : W.cell? ⟨b7, 0, none⟩ = some (.int .i64 t1) := (blk_cell k7 0).trans rfl
      have yc8 : W.cell? ⟨b7 + 1, 0, none⟩ = some (.int .i64 t2) := (blk_cell k8 0).trans rfl
      clear hA hK k7 k8
      gi_wp2
      refine wpIn_wide.2 ?_
      go_quiet (fail)
      gi_wp2
      refine ⟨by simp, .inl ⟨_, _, rfl, run_takeDeferred (w := W.drewN nq) HK.out, ?_⟩⟩
      exact ⟨_, results_tmp3 rfl _ _ _, rfl, (RkB.kept (Bnd := D) (show RkB w (W.drewN nq) w.heap.size (w.heap.size + 1) a0_0 a0_1 a0_2 a0_3 a0_4 (.slice A0_5 l0_5.length c0_5) a1 from KA.out.next (pw_below_drewN (Below.refl _ _) nq)) (by have := B9.size; omega) (grownBy_putObj' _ D (.deferred none)) (fun r e => by cases e; exact ⟨Nat.le_refl _, _, HK.out, rfl⟩)).below⟩
    · rintro D c j W _ _ h _
      exact h.elim
  · rw [if_neg ce] at h
    cases h
    have ceb : (ec != 0) = true := bne_iff_ne.2 ce
    clear ce
    gi_wp2
    exact ⟨_, results_tmp3 rfl _ _ _, rfl, KG.out.below⟩
end Go.Proofs.Ytclgfbhkmhhenaa.Hand
