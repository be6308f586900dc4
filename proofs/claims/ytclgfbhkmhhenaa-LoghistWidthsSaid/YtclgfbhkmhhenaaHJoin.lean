/- The contract of loghist.joined: what the Go code returns for any two histograms. No further condition. -/
import Derived.Test.YtclgfbhkmhhenaaHSrt
import Derived.Test.YtclgfbhkmhhenaaQTail
import Derived.Test.YtclgfbhkmhhenaaMarks
import Derived.Test.YtclgfbhkmhhenaaAA
import Derived.ControlIn
import Derived.Deep.QuietTactic
import Derived.BigQuiet
import Derived.Deep.RegionHeld3
namespace Go.Proofs.Ytclgfbhkmhhenaa.Hand
open Go.RowKit Go.Shelf Go.Maps Go.Proofs.YtclgfbhkmhhenaaW.PrintWords Go.Proofs.YtclgfbhkmhhenaaW.PrintMore Go.Proofs.Ytclgfbhkmhhenaa.Seq Go.Proofs.Ytclgfbhkmhhenaa.A
attribute [local go_sem] Oper.semAt_some
set_option linter.unusedVariables false
set_option linter.unusedSimpArgs false
/-! Buckets with one more. -/
def putL : List SB → Int → Int → List SB
  | [], i, n => [⟨i, wrap64 (0 + n)⟩]
  | y :: r, i, n => if y.f0 < i then y :: putL r i n else if y.f0 = i then ⟨i, wrap64 (y.f1 + n)⟩ :: r else ⟨i, wrap64 (0 + n)⟩ :: y :: r
def getL : List SB → Int → Int
  | [], _ => 0
  | y :: r, i => if y.f0 = i then y.f1 else getL r i
theorem getL_mem : ∀ (l : List SB) (i : Int), l.Pairwise (fun a b => a.f0 < b.f0) → ∀ y ∈ l, y.f0 = i → getL l i = y.f1
  | x :: r, i, hs, y, hy, e => by
    rw [getL]
    obtain ⟨h1, h2⟩ := List.pairwise_cons.1 hs
    rcases List.mem_cons.1 hy with rfl | hy
    · rw [if_pos e]
    · rw [if_neg (by have := h1 y hy; omega)]
      exact getL_mem r i h2 y hy e
theorem getL_none : ∀ (l : List SB) (i : Int), l.any (fun y => y.f0 == i) = false → getL l i = 0
  | [], _, _ => rfl
  | x :: r, i, h => by
    simp only [List.any_cons, Bool.or_eq_false_iff, beq_eq_false_iff_ne] at h
    rw [getL, if_neg h.1, getL_none r i h.2]
theorem putL_any : ∀ (l : List SB) (i n x : Int), (putL l i n).any (fun y => y.f0 == x) = (l.any (fun y => y.f0 == x) || i == x)
  | [], i, n, x => by simp [putL]
  | y :: r, i, n, x => by
    rw [putL]
    split
    · simp only [List.any_cons, putL_any r i n x, Bool.or_assoc]
    · split
      · rename_i h1 h2
        subst h2
        simp only [List.any_cons]
        cases y.f0 == x <;> simp
      · simp only [List.any_cons]
        cases i == x <;> cases y.f0 == x <;> simp
theorem putL_low : ∀ (l : List SB) (i n m : Int), (∀ y ∈ l, m < y.f0) → m < i → ∀ y ∈ putL l i n, m < y.f0
  | [], i, n, m, _, hi, y, hy => by
    rw [putL, List.mem_singleton] at hy
    subst hy; exact hi
  | x :: r, i, n, m, h, hi, y, hy => by
    rw [putL] at hy
    split at hy
    · rcases List.mem_cons.1 hy with rfl | hy
      · exact h _ (by simp)
      · exact putL_low r i n m (fun z hz => h z (by simp [hz])) hi y hy
    · split at hy
      · rcases List.mem_cons.1 hy with rfl | hy
        · exact hi
        · exact h y (by simp [hy])
      · rcases List.mem_cons.1 hy with rfl | hy
        · exact hi
        · exact h y hy
theorem putL_sorted : ∀ (l : List SB) (i n : Int), l.Pairwise (fun a b => a.f0 < b.f0) → (putL l i n).Pairwise (fun a b => a.f0 < b.f0)
  | [], i, n, _ => List.pairwise_singleton _ _
  | x :: r, i, n, hs => by
    obtain ⟨h1, h2⟩ := List.pairwise_cons.1 hs
    rw [putL]
    split
    · rename_i hlt
      exact List.pairwise_cons.2 ⟨putL_low r i n x.f0 h1 hlt, putL_sorted r i n h2⟩
    · split
      · rename_i h3 h4
        exact List.pairwise_cons.2 ⟨fun y hy => by have := h1 y hy; show i < y.f0; omega, h2⟩
      · exact List.pairwise_cons.2 ⟨fun y hy => by
          rcases List.mem_cons.1 hy with rfl | hy
          · show i < y.f0; omega
          · have := h1 y hy; show i < y.f0; omega, hs⟩
theorem putL_mem : ∀ (l : List SB) (i n : Int), l.Pairwise (fun a b => a.f0 < b.f0) → ∀ y ∈ putL l i n, y = ⟨i, wrap64 (getL l i + n)⟩ ∨ (y ∈ l ∧ y.f0 ≠ i)
  | [], i, n, _, y, hy => by rw [putL, List.mem_singleton] at hy; exact .inl hy
  | x :: r, i, n, hs, y, hy => by
    obtain ⟨h1, h2⟩ := List.pairwise_cons.1 hs
    rw [putL] at hy
    rw [getL]
    split at hy
    · rename_i hlt
      rw [if_neg (by omega)]
      rcases List.mem_cons.1 hy with rfl | hy
      · exact .inr ⟨by simp, by omega⟩
      · rcases putL_mem r i n h2 y hy with h | ⟨h, h'⟩
        · exact .inl h
        · exact .inr ⟨by simp [h], h'⟩
    · split at hy
      · rename_i h3 h4
        rw [if_pos h4]
        rcases List.mem_cons.1 hy with rfl | hy
        · exact .inl rfl
        · exact .inr ⟨by simp [hy], by have := h1 y hy; omega⟩
      · rename_i h3 h4
        rw [if_neg h4, getL_none r i (List.any_eq_false.2 (fun z hz => by have := h1 z hz; simp; omega))]
        rcases List.mem_cons.1 hy with rfl | hy
        · exact .inl rfl
        · refine .inr ⟨hy, ?_⟩
          rcases List.mem_cons.1 hy with rfl | hy
          · exact h4
          · have := h1 y hy; omega
theorem putL_len : ∀ (l : List SB) (i n : Int), l.Pairwise (fun a b => a.f0 < b.f0) → (putL l i n).length = if l.any (fun y => y.f0 == i) then l.length else l.length + 1
  | [], i, n, _ => rfl
  | x :: r, i, n, hs => by
    obtain ⟨h1, h2⟩ := List.pairwise_cons.1 hs
    rw [putL]
    split
    · rename_i hlt
      have e : (x.f0 == i) = false := beq_eq_false_iff_ne.2 (by omega)
      rw [List.length_cons, putL_len r i n h2, List.any_cons, e, Bool.false_or, List.length_cons]
      split <;> rfl
    · split
      · rename_i h3 h4
        rw [if_pos (by simp [h4])]; rfl
      · rename_i h3 h4
        have e : (x.f0 == i) = false := beq_eq_false_iff_ne.2 h4
        have e2 : r.any (fun y => y.f0 == i) = false := List.any_eq_false.2 (fun z hz => by have := h1 z hz; simp; omega)
        rw [if_neg (by simp [e, e2])]; rfl
theorem MapIs.start : MapIs (.map []) [] := ⟨tidy_empty, List.Pairwise.nil, fun x => rfl, fun y hy => (by cases hy), rfl⟩
theorem MapIs.look {D : DI} {l : List SB} (h : MapIs D l) (i : Int) : D.atKey (lk i) (.lit (.int .i64 0)) = .lit (.int .i64 (getL l i)) := by
  cases hc : l.any (fun y => y.f0 == i) with
  | false => rw [getL_none l i hc]; exact atKey_of_not_has (by rw [h.has, hc]) _
  | true =>
    obtain ⟨y, hy, e⟩ := List.any_eq_true.1 hc
    have e : y.f0 = i := by simpa using e
    rw [getL_mem l i h.sorted y hy e, ← e]
    exact h.get y hy _
theorem MapIs.put {D : DI} {l : List SB} (h : MapIs D l) (i n : Int) : MapIs (D.put (lk i) (.lit (.int .i64 (wrap64 (getL l i + n))))) (putL l i n) := by
  have hk : WideAt.IsKeyLit (lk i) := trivial
  refine ⟨h.tidy.put hk _, putL_sorted l i n h.sorted, fun x => ?_, fun y hy z => ?_, ?_⟩
  · rw [putL_any]
    by_cases e : x = i
    · subst e; rw [has_put_same h.tidy.isMap hk]; simp
    · rw [has_put_other (by intro h'; injection h' with _ h'; exact e h'), h.has]
      have : (i == x) = false := beq_eq_false_iff_ne.2 (Ne.symm e)
      simp [this]
  · rcases putL_mem l i n h.sorted y hy with rfl | ⟨hm, hne⟩
    · exact atKey_put_same h.tidy.isMap hk _ _
    · rw [atKey_put_other (by intro h'; injection h' with _ h'; exact hne h')]
      exact h.get y hm z
  · rw [size_put h.tidy, h.has, putL_len l i n h.sorted, h.size]
def addG (k : Nat) (pr p : Int) : List SB → List SB → Option (List SB)
  | [], acc => some acc
  | y :: r, acc => (loghist_bounds.f p y.f0).bind fun q => (loghist_index.f k pr q.1).bind fun i => if 0 ≤ i ∧ i < big then addG k pr p r (putL acc i y.f1) else none
def endG (a1 a2 a3 a4 b1 b2 b3 b4 pr : Int) (m : List SB) : Option (Int × Int × Int × Int × Int × List SB × Int) :=
  if (500 : Int) < m.length then some (0, 0, 0, 0, 0, [], 4) else if ∀ x ∈ m, 0 ≤ x.f0 ∧ x.f0 < big then
    (if a1 = 0 then some (pr, wrap64 (a1 + b1), wrap64 (a2 + b2), b3, b4, m, 0) else if b1 = 0 then some (pr, wrap64 (a1 + b1), wrap64 (a2 + b2), a3, a4, m, 0)
     else some (pr, wrap64 (a1 + b1), wrap64 (a2 + b2), mn a3 b3, mx a4 b4, m, 0)) else none
def loghist_joined.f (k : Nat) (a0 a1 a2 a3 a4 : Int) (l0 : List SB) (b0 b1 b2 b3 b4 : Int) (l1 : List SB) (pr : Int) : Option (Int × Int × Int × Int × Int × List SB × Int) :=
  if 1048576 < wrap64 (a1 + b1) then some (0, 0, 0, 0, 0, [], 4) else if l0.length + l1.length < 1000000 then
    ((addG k pr a0 l0 []).bind fun m1 => (addG k pr b0 l1 m1).bind fun m => endG a1 a2 a3 a4 b1 b2 b3 b4 pr m) else none
theorem addG_mono (pr p : Int) : ∀ (l acc : List SB) (k : Nat), LeO (addG k pr p l acc) (addG (k + 1) pr p l acc)
  | [], _, _ => LeO.refl _
  | y :: r, acc, k => LeO.bind (LeO.refl _) (fun q => LeO.bind (loghist_index.mono _ _ _) (fun i => by
    split
    · exact addG_mono pr p r _ k
    · exact LeO.refl _))
theorem loghist_joined.mono : ∀ a0 a1 a2 a3 a4 a5 b0 b1 b2 b3 b4 b5 pr k, LeO (loghist_joined.f k a0 a1 a2 a3 a4 a5 b0 b1 b2 b3 b4 b5 pr) (loghist_joined.f (k + 1) a0 a1 a2 a3 a4 a5 b0 b1 b2 b3 b4 b5 pr) := by
  intro a0 a1 a2 a3 a4 a5 b0 b1 b2 b3 b4 b5 pr k
  unfold loghist_joined.f
  split
  · exact LeO.refl _
  · split
    · exact LeO.bind (addG_mono _ _ _ _ _) (fun m1 => LeO.bind (addG_mono _ _ _ _ _) (fun m => LeO.refl _))
    · exact LeO.refl _
/-- What lies in memory. -/
structure JB (w W : World) (ca cb cs : Array Value) (pr : Int) (n : Nat) (D : DI) : Prop where
  below : Below w.heap.size w W
  k3 : W.heap[w.heap.size]? = some (.cells ca 29 (0, 0))
  k4 : W.heap[w.heap.size + 1]? = some (.cells cb 29 (0, 0))
  k5 : W.heap[w.heap.size + 1 + 1]? = some (.cells #[.int .i64 pr] 3 (0, 0))
  k6 : W.heap[w.heap.size + 1 + 1 + 1]? = some (.cells #[.int .i64 0, .int .i64 0, .int .i64 0, .int .i64 0, .int .i64 0, .slice none 0 0] 29 (0, 0))
  own : W.ownsMap Try.prog 3 (plainElem Try.prog 3) (w.heap.size + 1 + 1 + 1 + 1) n D
  km : W.heap[w.heap.size + 1 + 1 + 1 + 1 + 1]? = some (.cells #[.map (some (w.heap.size + 1 + 1 + 1 + 1))] 86 (0, 0))
  ks : W.heap[w.heap.size + 1 + 1 + 1 + 1 + 1 + 1]? = some (.cells cs 29 (0, 0))
section
variable {w W W' : World} {ca cb cs : Array Value} {pr : Int} {n : Nat} {D : DI}
theorem JB.next (h : JB w W ca cb cs pr n D) (hb : Below W.heap.size W W') : JB w W' ca cb cs pr n D := by
  refine ⟨h.below.trans (hb.mono h.below.size), blk_below h.k3 hb, blk_below h.k4 hb, blk_below h.k5 hb, blk_below h.k6 hb, ?_, blk_below h.km hb, blk_below h.ks hb⟩
  obtain ⟨es, clock, g1, g2, g3, g4⟩ := h.own
  exact ⟨es, clock, blk_below g1 hb, g2, g3, g4⟩
theorem JB.next2 {B : Nat} (h : JB w W ca cb cs pr n D) (hb : Below B W W') (hB : w.heap.size + 1 + 1 + 1 + 1 + 1 + 1 < B) : JB w W' ca cb cs pr n D := by
  refine ⟨h.below.trans (hb.mono (by omega)), (hb.block _ (by omega)).trans h.k3, (hb.block _ (by omega)).trans h.k4, (hb.block _ (by omega)).trans h.k5, (hb.block _ (by omega)).trans h.k6, ?_, (hb.block _ (by omega)).trans h.km, (hb.block _ (by omega)).trans h.ks⟩
  obtain ⟨es, clock, g1, g2, g3, g4⟩ := h.own
  exact ⟨es, clock, (hb.block _ (by omega)).trans g1, g2, g3, g4⟩
theorem JB.kept {Bnd : Nat} {row : Option Nat} (h : JB w W ca cb cs pr n D) (hB : w.heap.size + 1 + 1 + 1 + 1 < Bnd) (hg : W.grownBy W' row) (hr : ∀ r, row = some r → Bnd ≤ r ∧ ∃ o : Obj, W.heap[r]? = some o ∧ o.isCells = false) : JB w W' ca cb cs pr n D :=
  ⟨h.below.grown hg h.below.size (fun k e => by have := (hr k e).1; omega), blk_kept' h.k3 hg hr, blk_kept' h.k4 hg hr, blk_kept' h.k5 hg hr, blk_kept' h.k6 hg hr, h.own.kept hg (fun e => by have := (hr _ e.symm).1; omega), blk_kept' h.km hg hr, blk_kept' h.ks hg hr⟩
theorem JB.mapped {n' : Nat} {D' : DI} (h : JB w W ca cb cs pr n D) (hg : W.grownBy W' (some (w.heap.size + 1 + 1 + 1 + 1))) (ho : W'.ownsMap Try.prog 3 (plainElem Try.prog 3) (w.heap.size + 1 + 1 + 1 + 1) n' D') : JB w W' ca cb cs pr n' D' := by
  have g : ∀ k, k < W.heap.size → k ≠ w.heap.size + 1 + 1 + 1 + 1 → W'.heap[k]? = W.heap[k]? := fun k hk hne => hg.block k hk (fun e => hne (by injection e))
  exact ⟨h.below.grown hg h.below.size (fun k e => by cases e; omega), (g _ (blk_lt h.k3) (by omega)).trans h.k3, (g _ (blk_lt h.k4) (by omega)).trans h.k4, (g _ (blk_lt h.k5) (by omega)).trans h.k5, (g _ (blk_lt h.k6) (by omega)).trans h.k6, ho, (g _ (blk_lt h.km) (by omega)).trans h.km, (g _ (blk_lt h.ks) (by omega)).trans h.ks⟩
end
theorem zeroI (w : World) : (zeroValue 3).run Try.prog w = .ok (.int .i64 0) w := by kernel_rfl
theorem frame_ex {T : Array Value} (g : (Nat → Value) → Array Value) (h : T = g (fun k => T.getD k undef)) : ∃ f, T = g f := ⟨_, h⟩
def stG (k : Nat) (pr a0 b0 : Int) (l0 l1 : List SB) (E : List SB → Option (Int × Int × Int × Int × Int × List SB × Int)) : Nat → List SB → Option (Int × Int × Int × Int × Int × List SB × Int)
  | 0, m => (addG k pr a0 l0 m).bind fun m1 => (addG k pr b0 l1 m1).bind E
  | 1, m => (addG k pr b0 l1 m).bind E
  | _, m => E m
def nbG (l0 l1 : List SB) (i : Nat) : Nat := if i = 0 then 0 else if i = 1 then l0.length else l0.length + l1.length
theorem JB.made (w : World) (ca cb cs : Array Value) (pr : Int) : JB w (((((((w.alloc (.cells ca 29)).alloc (.cells cb 29)).alloc (.cells #[.int .i64 pr] 3)).alloc (.cells #[.int .i64 0, .int .i64 0, .int .i64 0, .int .i64 0, .int .i64 0, .slice none 0 0] 29)).alloc (.map #[] 0)).alloc (.cells #[.map (some (w.heap.size + 1 + 1 + 1 + 1))] 86)).alloc (.cells cs 29)) ca cb cs pr 0 (.map []) := by
  have n1 := World.alloc_heap_new w (.cells ca 29)
  have n2 := World.alloc_heap_new (w.alloc (.cells ca 29)) (.cells cb 29)
  have n3 := World.alloc_heap_new ((w.alloc (.cells ca 29)).alloc (.cells cb 29)) (.cells #[.int .i64 pr] 3)
  have n4 := World.alloc_heap_new (((w.alloc (.cells ca 29)).alloc (.cells cb 29)).alloc (.cells #[.int .i64 pr] 3)) (.cells #[.int .i64 0, .int .i64 0, .int .i64 0, .int .i64 0, .int .i64 0, .slice none 0 0] 29)
  have n5 := World.ownsMap_made ((((w.alloc (.cells ca 29)).alloc (.cells cb 29)).alloc (.cells #[.int .i64 pr] 3)).alloc (.cells #[.int .i64 0, .int .i64 0, .int .i64 0, .int .i64 0, .int .i64 0, .slice none 0 0] 29)) Try.prog 3 (plainElem Try.prog 3) (H := TypeId × Value)
  have n6 := World.alloc_heap_new (((((w.alloc (.cells ca 29)).alloc (.cells cb 29)).alloc (.cells #[.int .i64 pr] 3)).alloc (.cells #[.int .i64 0, .int .i64 0, .int .i64 0, .int .i64 0, .int .i64 0, .slice none 0 0] 29)).alloc (.map #[] 0)) (.cells #[.map (some (w.heap.size + 1 + 1 + 1 + 1))] 86)
  have n7 := World.alloc_heap_new ((((((w.alloc (.cells ca 29)).alloc (.cells cb 29)).alloc (.cells #[.int .i64 pr] 3)).alloc (.cells #[.int .i64 0, .int .i64 0, .int .i64 0, .int .i64 0, .int .i64 0, .slice none 0 0] 29)).alloc (.map #[] 0)).alloc (.cells #[.map (some (w.heap.size + 1 + 1 + 1 + 1))] 86)) (.cells cs 29)
  simp only [World.size_alloc] at n2 n3 n4 n5 n6 n7
  exact ⟨bA (bA (bA (bA (bA (bA (bA (Below.refl _ _) _) _) _) _) _) _) _, blk_alloc (blk_alloc (blk_alloc (blk_alloc (blk_alloc (blk_alloc n1 _) _) _) _) _) _, blk_alloc (blk_alloc (blk_alloc (blk_alloc (blk_alloc n2 _) _) _) _) _, blk_alloc (blk_alloc (blk_alloc (blk_alloc n3 _) _) _) _, blk_alloc (blk_alloc (blk_alloc n4 _) _) _, (n5.alloc _).alloc _, blk_alloc n6 _, n7⟩
abbrev set6 (W : World) (b : Nat) (y0 y1 y2 y3 y4 y5 : Value) : World := (((((W.setCell ⟨b, 0, none⟩ y0).setCell ⟨b, 1, none⟩ y1).setCell ⟨b, 2, none⟩ y2).setCell ⟨b, 3, none⟩ y3).setCell ⟨b, 4, none⟩ y4).setCell ⟨b, 5, none⟩ y5
theorem put6 {W : World} {b t : Nat} {x0 x1 x2 x3 x4 x5 : Value} (h : W.heap[b]? = some (.cells #[x0, x1, x2, x3, x4, x5] t (0, 0))) (y0 y1 y2 y3 y4 y5 : Value) : (set6 W b y0 y1 y2 y3 y4 y5).heap[b]? = some (.cells #[y0, y1, y2, y3, y4, y5] t (0, 0)) :=
  blk_put (blk_put (blk_put (blk_put (blk_put (blk_put h 0 _ rfl) 1 _ rfl) 2 _ rfl) 3 _ rfl) 4 _ rfl) 5 _ rfl
theorem below6 {w W : World} {b : Nat} (h : Below w.heap.size w W) (hb : w.heap.size ≤ b) (y0 y1 y2 y3 y4 y5 : Value) : Below w.heap.size w (set6 W b y0 y1 y2 y3 y4 y5) :=
  (((((h.setCell (p := ⟨b, 0, none⟩) hb _).setCell (p := ⟨b, 1, none⟩) hb _).setCell (p := ⟨b, 2, none⟩) hb _).setCell (p := ⟨b, 3, none⟩) hb _).setCell (p := ⟨b, 4, none⟩) hb _).setCell (p := ⟨b, 5, none⟩) hb _
theorem marks6 {W : World} {b B : Nat} {rs : List Nat} (h : Marks B rs W) (y0 y1 y2 y3 y4 y5 : Value) : Marks B rs (set6 W b y0 y1 y2 y3 y4 y5) :=
  (((((h.keeps ((KeepsOthers.setCell _ _ _).from _)).keeps ((KeepsOthers.setCell _ _ _).from _)).keeps ((KeepsOthers.setCell _ _ _).from _)).keeps ((KeepsOthers.setCell _ _ _).from _)).keeps ((KeepsOthers.setCell _ _ _).from _)).keeps ((KeepsOthers.setCell _ _ _).from _)
theorem other6 {W : World} {b c : Nat} (hc : c ≠ b) (y0 y1 y2 y3 y4 y5 : Value) : (set6 W b y0 y1 y2 y3 y4 y5).heap[c]? = W.heap[c]? :=
  (Below.heap_setCell _ _ _ _ hc).trans ((Below.heap_setCell _ _ _ _ hc).trans ((Below.heap_setCell _ _ _ _ hc).trans ((Below.heap_setCell _ _ _ _ hc).trans ((Below.heap_setCell _ _ _ _ hc).trans (Below.heap_setCell _ _ _ _ hc)))))
theorem bel_go {W w1 W' : World} {p : Prop} (h1 : Below W.heap.size W w1 ∧ p) (h2 : Below w1.heap.size w1 W') : Below W.heap.size W W' := h1.1.trans (h2.mono h1.1.size)
theorem new_drew (W : World) (o : Obj) : (W.alloc o).drew.heap[W.heap.size]? = some o := World.alloc_heap_new W o
theorem after_alloc {W W' : World} {o : Obj} (hb : Below (W.alloc o).drew.heap.size (W.alloc o).drew W') : W'.heap[W.heap.size]? = some o := blk_below (new_drew W o) hb
theorem bel_drew (W : World) : Below W.heap.size W W.drew := pw_below_drewN (Below.refl _ _) 1
theorem bel_drewA (W : World) (o : Obj) : Below W.heap.size W (W.alloc o).drew := pw_below_drewN (bA (Below.refl _ _) o) 1
theorem bel_firstA {W W' : World} {o : Obj} (hb : Below (W.alloc o).drew.heap.size (W.alloc o).drew W') : Below W.heap.size W W' := (bel_drewA W o).trans (hb.mono (bel_drewA W o).size)
theorem bel_first {W W' : World} (hb : Below W.drew.heap.size W.drew W') : Below W.heap.size W W' := (bel_drew W).trans hb
theorem wrap_is (x : Int) : IntKind.i64.wrap x = wrap64 x := by unfold wrap64; exact IntKind.wrap_i64 x
theorem put34 {W : World} {b t : Nat} {x0 x1 x2 x3 x4 x5 : Value} (h : W.heap[b]? = some (.cells #[x0, x1, x2, x3, x4, x5] t (0, 0))) (lo hi : Value) : ((W.setCell ⟨b, 3, none⟩ lo).setCell ⟨b, 4, none⟩ hi).drew.heap[b]? = some (.cells #[x0, x1, x2, lo, hi, x5] t (0, 0)) :=
  blk_put (blk_put h 3 lo rfl) 4 hi rfl
theorem put43 {W : World} {b t : Nat} {x0 x1 x2 x3 x4 x5 : Value} (h : W.heap[b]? = some (.cells #[x0, x1, x2, x3, x4, x5] t (0, 0))) (lo hi : Value) : ((W.setCell ⟨b, 4, none⟩ hi).setCell ⟨b, 3, none⟩ lo).drew.heap[b]? = some (.cells #[x0, x1, x2, lo, hi, x5] t (0, 0)) :=
  blk_put (blk_put h 4 hi rfl) 3 lo rfl
theorem bd0 (B : Nat) (W : World) : Below B W W.drew := pw_below_drewN (Below.refl B W) 1
theorem bd1 {B b : Nat} {W : World} (h : B ≤ b) (i : Nat) (u : Value) : Below B W (W.setCell ⟨b, i, none⟩ u).drew := ((Below.refl B W).setCell (p := ⟨b, i, none⟩) h u).trans (bd0 _ _)
theorem bd2 {B b : Nat} {W : World} (h : B ≤ b) (i j : Nat) (u v : Value) : Below B W ((W.setCell ⟨b, i, none⟩ u).setCell ⟨b, j, none⟩ v).drew := (((Below.refl B W).setCell (p := ⟨b, i, none⟩) h u).setCell (p := ⟨b, j, none⟩) h v).trans (bd0 _ _)
theorem R_set2 {e base b i j : Nat} {W : World} {v : Value} {l : List SB} (h : Kd.R kB e W base (fun k => k ≠ b) v l) (x y : Value) : Kd.R kB e ((W.setCell ⟨b, i, none⟩ x).setCell ⟨b, j, none⟩ y).drew base (fun k => k ≠ b) v l :=
  Kd.R_drew (Kd.R_far (p := ⟨b, j, none⟩) (Kd.R_far (p := ⟨b, i, none⟩) h (fun _ hk => hk) _) (fun _ hk => hk) _)
theorem mn_is (a b : Int) : mn a b = min a b := by unfold mn; split <;> omega
theorem mx_is (a b : Int) : mx a b = max a b := by unfold mx; split <;> omega
theorem R_newA {e base : Nat} {W W' : World} {o : Obj} {v : Value} {l : List SB} (h : Kd.R kB e W' (W.alloc o).drew.heap.size (fun _ => True) v l) (hb : base ≤ W.heap.size) : Kd.R kB e W' base (fun k => k ≠ W.heap.size) v l :=
  Kd.R_lower (Kd.R_mono (Kd.R_bound h) (fun k hk => by have : (W.alloc o).heap.size ≤ k := hk.2.1; rw [World.size_alloc] at this; omega)) (by show base ≤ (W.alloc o).heap.size; rw [World.size_alloc]; omega)
theorem R_newW {e base : Nat} {W W' : World} {v : Value} {l : List SB} (h : Kd.R kB e W' W.drew.heap.size (fun _ => True) v l) (hb : base ≤ W.heap.size) : Kd.R kB e W' base (fun k => k ≠ W'.heap.size) v l :=
  Kd.R_lower (Kd.R_mono (Kd.R_bound h) (fun k hk => Nat.ne_of_lt hk.2.2.1)) hb
theorem R_set6 {e base b : Nat} {ok : Nat → Prop} {W : World} {v : Value} {l : List SB} (h : Kd.R kB e W base ok v l) (hok : ∀ k, ok k → k ≠ b) (y0 y1 y2 y3 y4 y5 : Value) : Kd.R kB e (set6 W b y0 y1 y2 y3 y4 y5) base ok v l :=
  Kd.R_far (p := ⟨b, 5, none⟩) (Kd.R_far (p := ⟨b, 4, none⟩) (Kd.R_far (p := ⟨b, 3, none⟩) (Kd.R_far (p := ⟨b, 2, none⟩) (Kd.R_far (p := ⟨b, 1, none⟩) (Kd.R_far (p := ⟨b, 0, none⟩) h hok _) hok _) hok _) hok _) hok _) hok _
theorem R_hist {base g : Nat} {ok : Nat → Prop} {W : World} {v : Value} {l : List SB} {cells : Array Value} (h : Kd.R kB 66 W base ok v l) (hb : W.heap[g]? = some (.cells cells 29 (0, 0))) (y0 y1 y2 y3 y4 y5 : Value) : Kd.R kB 66 (set6 W g y0 y1 y2 y3 y4 y5) base (fun _ => True) v l :=
  Kd.R_mono (R_set6 (Kd.R_types h hb (fun q hq => by
    have hq : q ∈ [66] := hq
    rw [List.mem_singleton] at hq
    subst hq
    decide)) (fun _ hk => hk.2) y0 y1 y2 y3 y4 y5) (fun _ _ => trivial)
/-- The result lies in a block of its own. -/
theorem ret_hist {n : Nat} {f : Func} {w W : World} {b B : Nat} {rs : List Nat} {a : Act} {r1 r2 r3 r4 r5 r7 : Int} {v5 : Value} {r6 : List SB} (hf : f.results = #[.cell 6 29, .tmp 7]) (h : W.heap[b]? = some (.cells #[.int .i64 r1, .int .i64 r2, .int .i64 r3, .int .i64 r4, .int .i64 r5, v5] 29 (0, 0)))
    (hR : Kd.R kB 66 W w.heap.size (fun _ => True) v5 r6) (hb : Below w.heap.size w W) (ha : a.tmps.getD 6 undef = .pointer (some ⟨b, 0, none⟩)) (ha7 : a.tmps.getD 7 undef = .int .i64 r7) (hd : a.defers = rs.map mkD) (hm : Marks B rs W) (hB : w.heap.size ≤ B) :
    bodyPostM Fence.wide n Try.prog f (fun e w' => ∃ v5_ : Value, e = .returned (.tuple #[.agg #[.int .i64 r1, .int .i64 r2, .int .i64 r3, .int .i64 r4, .int .i64 r5, v5_], .int .i64 r7]) ∧ Kd.R kB 66 w' w.heap.size (fun _ => True) v5_ r6 ∧ Below w.heap.size w w') .ret a W := by
  show LeavesInM Fence.wide n Try.prog f a.tmps _ a.defers .returning W
  rw [hd]
  refine leaves_marks rs W hm (fun W' h1 h2 => ?_)
  have hW := h1 _ _ h rfl
  have y0 : W'.cell? ⟨b, 0, none⟩ = some (.int .i64 r1) := (blk_cell hW 0).trans rfl
  have y1 : W'.cell? ⟨b, 1, none⟩ = some (.int .i64 r2) := (blk_cell hW 1).trans rfl
  have y2 : W'.cell? ⟨b, 2, none⟩ = some (.int .i64 r3) := (blk_cell hW 2).trans rfl
  have y3 : W'.cell? ⟨b, 3, none⟩ = some (.int .i64 r4) := (blk_cell hW 3).trans rfl
  have y4 : W'.cell? ⟨b, 4, none⟩ = some (.int .i64 r5) := (blk_cell hW 4).trans rfl
  have y5 : W'.cell? ⟨b, 5, none⟩ = some v5 := (blk_cell hW 5).trans rfl
  have ha' : a.tmps[6]?.getD undef = .pointer (some ⟨b, 0, none⟩) := by rw [← Array.getD_eq_getD_getElem?]; exact ha
  have hb' : a.tmps[7]?.getD undef = .int .i64 r7 := by rw [← Array.getD_eq_getD_getElem?]; exact ha7
  refine ⟨.tuple #[.agg #[.int .i64 r1, .int .i64 r2, .int .i64 r3, .int .i64 r4, .int .i64 r5, v5], .int .i64 r7], by simp [results, hf, go_sem, ha', hb', y0, y1, y2, y3, y4, y5], v5, rfl, ?_, h2 w _ hB (Nat.le_refl _) hb⟩
  exact Kd.R_mono (Kd.R_move (Kd.R_bound hR) (fun k hh => by
    obtain ⟨_, _, _, q, hq, cells, hc⟩ := hh
    exact (h1 _ _ hc rfl).trans hc.symm)) (fun _ hh => hh.1)
set_option maxRecDepth 100000 in
set_option maxHeartbeats 16000000 in
theorem loghist_joined.calls (k : Nat) (a0 a1 a2 a3 a4 : Int) (A0 : Option Addr) (c0 : Nat) (l0 : List SB) (b0 b1 b2 b3 b4 : Int) (A1 : Option Addr) (c1 : Nat) (l1 : List SB) (pr : Int) (r1 r2 r3 r4 r5 : Int) (r6 : List SB) (r7 : Int) (w : World) (hr0 : Kd.C kB w A0 l0.length l0) (hc0 : l0.length ≤ c0) (hr1 : Kd.C kB w A1 l1.length l1) (hc1 : l1.length ≤ c1)
    (h : loghist_joined.f k a0 a1 a2 a3 a4 l0 b0 b1 b2 b3 b4 l1 pr = some (r1, r2, r3, r4, r5, r6, r7)) :
    Calls Try.prog 45 #[.agg #[.int .i64 a0, .int .i64 a1, .int .i64 a2, .int .i64 a3, .int .i64 a4, .slice A0 l0.length c0], .agg #[.int .i64 b0, .int .i64 b1, .int .i64 b2, .int .i64 b3, .int .i64 b4, .slice A1 l1.length c1], .int .i64 pr] w fun e w' => ∃ v5_ : Value, e = .returned (.tuple #[.agg #[.int .i64 r1, .int .i64 r2, .int .i64 r3, .int .i64 r4, .int .i64 r5, v5_], .int .i64 r7]) ∧ Kd.R kB 66 w' w.heap.size (fun _ => True) v5_ r6 ∧ Below w.heap.size w w' := by
  unfold loghist_joined.f at h
  have hmm := @run_makeMap Try.prog
  have HR0 := Aside0.mk hr0
  have HR1 := Aside0.mk hr1
  clear hr0 hr1
  refine (callsIn_wide (n := 4)).1 ?_
  refine callsIn_of_wp_marks Try.func45 rfl trivial ?_ rfl
  simp only [Try.ntmps45, List.size_toArray, List.length_cons, List.length_nil, Nat.reduceAdd, Nat.reduceSub, Array.replicate_succ, Array.replicate_zero, List.push_toArray, List.append_toArray, List.nil_append, List.cons_append]
  by_cases g1 : 1048576 < wrap64 (a1 + b1)
  · rw [if_pos g1] at h
    cases h
    have g1b : decide (1048576 < wrap64 (a1 + b1)) = true := decide_eq_true g1
    clear g1
    gi_wp2
    have nz := World.alloc_heap_new (((w.alloc (.cells #[.int .i64 a0, .int .i64 a1, .int .i64 a2, .int .i64 a3, .int .i64 a4, .slice A0 l0.length c0] 29)).alloc (.cells #[.int .i64 b0, .int .i64 b1, .int .i64 b2, .int .i64 b3, .int .i64 b4, .slice A1 l1.length c1] 29)).alloc (.cells #[.int .i64 pr] 3)) (.cells #[.int .i64 0, .int .i64 0, .int .i64 0, .int .i64 0, .int .i64 0, .slice none 0 0] 29)
    simp only [World.size_alloc] at nz
    exact ret_hist (b := w.heap.size + 1 + 1 + 1) (rs := []) rfl nz (Kd.R_nil _ _ _ _ _) (bA (bA (bA (bA (Below.refl _ _) _) _) _) _) (by rfl) (by rfl) (by rfl) (Marks.none w.heap.size _) (Nat.le_refl _)
  · rw [if_neg g1] at h
    have g1b : decide (1048576 < wrap64 (a1 + b1)) = false := decide_eq_false g1
    clear g1
    by_cases g2 : l0.length + l1.length < 1000000
    · rw [if_pos g2] at h
      have HH : Aside0 (stG k pr a0 b0 l0 l1 (endG a1 a2 a3 a4 b1 b2 b3 b4 pr) 0 [] = some (r1, r2, r3, r4, r5, r6, r7)) := ⟨h⟩
      clear h
      gi_wp2
      have K0 := JB.made w #[.int .i64 a0, .int .i64 a1, .int .i64 a2, .int .i64 a3, .int .i64 a4, .slice A0 l0.length c0] #[.int .i64 b0, .int .i64 b1, .int .i64 b2, .int .i64 b3, .int .i64 b4, .slice A1 l1.length c1] #[.int .i64 a0, .int .i64 a1, .int .i64 a2, .int .i64 a3, .int .i64 a4, .slice A0 l0.length c0, .int .i64 b0, .int .i64 b1, .int .i64 b2, .int .i64 b3, .int .i64 b4, .slice A1 l1.length c1] pr
      have HK0 := Aside0.mk K0
      clear K0
      generalize ((((((w.alloc (.cells #[.int .i64 a0, .int .i64 a1, .int .i64 a2, .int .i64 a3, .int .i64 a4, .slice A0 l0.length c0] 29)).alloc (.cells #[.int .i64 b0, .int .i64 b1, .int .i64 b2, .int .i64 b3, .int .i64 b4, .slice A1 l1.length c1] 29)).alloc (.cells #[.int .i64 pr] 3)).alloc (.cells #[.int .i64 0, .int .i64 0, .int .i64 0, .int .i64 0, .int .i64 0, .slice none 0 0] 29)).alloc (.map #[] 0)).alloc (.cells #[.map (some (w.heap.size + 1 + 1 + 1 + 1))] 86)).alloc (.cells #[.int .i64 a0, .int .i64 a1, .int .i64 a2, .int .i64 a3, .int .i64 a4, .slice A0 l0.length c0, .int .i64 b0, .int .i64 b1, .int .i64 b2, .int .i64 b3, .int .i64 b4, .slice A1 l1.length c1] 29) = W0 at HK0 ⊢
      obtain ⟨I, hI⟩ : ∃ I : Act → World → Prop, I = (fun a W => ∃ (i : Nat) (rs : List Nat) (n : Nat) (D : DI) (m : List SB), (i ≤ 2 ∧ Marks w.heap.size rs W ∧ JB w W #[.int .i64 a0, .int .i64 a1, .int .i64 a2, .int .i64 a3, .int .i64 a4, .slice A0 l0.length c0] #[.int .i64 b0, .int .i64 b1, .int .i64 b2, .int .i64 b3, .int .i64 b4, .slice A1 l1.length c1] #[.int .i64 a0, .int .i64 a1, .int .i64 a2, .int .i64 a3, .int .i64 a4, .slice A0 l0.length c0, .int .i64 b0, .int .i64 b1, .int .i64 b2, .int .i64 b3, .int .i64 b4, .slice A1 l1.length c1] pr n D ∧ MapIs D m ∧ n ≤ nbG l0 l1 i ∧ stG k pr a0 b0 l0 l1 (endG a1 a2 a3 a4 b1 b2 b3 b4 pr) i m = some (r1, r2, r3, r4, r5, r6, r7)) ∧
          a.defers = rs.map mkD ∧ ∃ f : Nat → Value, a.tmps = #[.agg #[.int .i64 a0, .int .i64 a1, .int .i64 a2, .int .i64 a3, .int .i64 a4, .slice A0 l0.length c0], .agg #[.int .i64 b0, .int .i64 b1, .int .i64 b2, .int .i64 b3, .int .i64 b4, .slice A1 l1.length c1], .int .i64 pr, .pointer (some ⟨w.heap.size, 0, none⟩), .pointer (some ⟨w.heap.size + 1, 0, none⟩), .pointer (some ⟨w.heap.size + 1 + 1, 0, none⟩), .pointer (some ⟨w.heap.size + 1 + 1 + 1, 0, none⟩), .int .i64 0, .pointer (some ⟨w.heap.size + 1 + 1 + 1 + 1 + 1, 0, none⟩), f 9, f 10, f 11, f 12, f 13, f 14, f 15, f 16, f 17, f 18, f 19, f 20, f 21, f 22, f 23, f 24, .slice (some ⟨w.heap.size + 1 + 1 + 1 + 1 + 1 + 1, 0, none⟩) 2 2, .int .i64 2, .int .i64 i, f 28, f 29, f 30, f 31, f 32, f 33, f 34, f 35, f 36, f 37, f 38, f 39, f 40, f 41, f 42, f 43, f 44, f 45, f 46, f 47, f 48, f 49, f 50, f 51, f 52, f 53, f 54, f 55, f 56, f 57, f 58, f 59, f 60, f 61, f 62, f 63, f 64, f 65, f 66, f 67, f 68, f 69, f 70, f 71, f 72, f 73, f 74, f 75, f 76, f 77, f 78, f 79, f 80, f 81, f 82, f 83, f 84, f 85, f 86, f 87, f 88, f 89, f 90, f 91, f 92, f 93, f 94, f 95, f 96, f 97, f 98, f 99, f 100, f 101, f 102]) := ⟨_, rfl⟩
      have HI := Aside0.mk hI
      clear hI
      refine wpIn_loop I (fun a _ => 2 - (intOf (a.tmps.getD 27 undef)).toNat) ?start ?round
      case start =>
        rw [HI.out]
        exact ⟨0, [], 0, _, [], ⟨by omega, Marks.none _ _, HK0.out, MapIs.start, Nat.zero_le _, HH.out⟩, rfl, frame_ex _ (by rfl)⟩
      case round =>
        intro a W hIa
        rw [HI.out] at hIa
        obtain ⟨i, rs, n, D, m, ⟨hi, hmk, hJ, hM, hn, hst⟩, hdf, f, htm⟩ := hIa
        obtain ⟨tm, df⟩ := a
        dsimp only at hdf htm
        subst hdf htm
        have HMK := Aside0.mk hmk
        have HJ := Aside0.mk hJ
        have HM := Aside0.mk hM
        have HST := Aside0.mk hst
        have HN := Aside0.mk hn
        clear hmk hJ hM hst HH HK0 hn
        by_cases ci : i < 2
        · obtain ⟨p, q1, q2, q3, q4, A, cc, l, x0, x1, x2, x3, x4, x5, hrow, hcap, hstep, hnb⟩ : ∃ (p q1 q2 q3 q4 : Int) (A : Option Addr) (cc : Nat) (l : List SB), W.cell? ⟨w.heap.size + 1 + 1 + 1 + 1 + 1 + 1, i * 6, none⟩ = some (.int .i64 p) ∧ W.cell? ⟨w.heap.size + 1 + 1 + 1 + 1 + 1 + 1, i * 6 + 1, none⟩ = some (.int .i64 q1) ∧ W.cell? ⟨w.heap.size + 1 + 1 + 1 + 1 + 1 + 1, i * 6 + 2, none⟩ = some (.int .i64 q2) ∧ W.cell? ⟨w.heap.size + 1 + 1 + 1 + 1 + 1 + 1, i * 6 + 3, none⟩ = some (.int .i64 q3) ∧ W.cell? ⟨w.heap.size + 1 + 1 + 1 + 1 + 1 + 1, i * 6 + 4, none⟩ = some (.int .i64 q4) ∧ W.cell? ⟨w.heap.size + 1 + 1 + 1 + 1 + 1 + 1, i * 6 + 5, none⟩ = some (.slice A l.length cc) ∧
              Aside0 (Kd.C kB w A l.length l) ∧ l.length ≤ cc ∧ (∀ m, stG k pr a0 b0 l0 l1 (endG a1 a2 a3 a4 b1 b2 b3 b4 pr) i m = (addG k pr p l m).bind (stG k pr a0 b0 l0 l1 (endG a1 a2 a3 a4 b1 b2 b3 b4 pr) (i + 1))) ∧ nbG l0 l1 i + l.length = nbG l0 l1 (i + 1) := by
            have ks := HJ.out.ks
            obtain rfl | rfl : i = 0 ∨ i = 1 := by omega
            · exact ⟨a0, a1, a2, a3, a4, A0, c0, l0, (blk_cell ks 0).trans rfl, (blk_cell ks 1).trans rfl, (blk_cell ks 2).trans rfl, (blk_cell ks 3).trans rfl, (blk_cell ks 4).trans rfl, (blk_cell ks 5).trans rfl, HR0, hc0, fun m => rfl, Nat.zero_add _⟩
            · exact ⟨b0, b1, b2, b3, b4, A1, c1, l1, (blk_cell ks 6).trans rfl, (blk_cell ks 7).trans rfl, (blk_cell ks 8).trans rfl, (blk_cell ks 9).trans rfl, (blk_cell ks 10).trans rfl, (blk_cell ks 11).trans rfl, HR1, hc1, fun m => rfl, rfl⟩
          have HSTEP := Aside0.mk hstep
          have hnbm : nbG l0 l1 (i + 1) < 1000000 := by unfold nbG; split <;> (try split) <;> omega
          have HNB := Aside0.mk (And.intro hnb hnbm)
          have hi0 : (0 : Int) ≤ (i : Int) := by omega
          have hlt6 := blk_lt HJ.out.ks
          have hi2 : (i : Int) < 2 := by omega
          clear hstep hnb hnbm
          gi_wp2_with fail
          refine ⟨trivial, (counted_in _ _ _ _ _ _ _ _).mono ?_⟩
          rintro e w' ⟨rfl, rfl⟩
          clear x0 x1 x2 x3 x4 x5
          have n0 := World.alloc_heap_new W (.cells #[.int .i64 p, .int .i64 q1, .int .i64 q2, .int .i64 q3, .int .i64 q4, .slice A l.length cc] 29)
          have n1 := World.alloc_heap_new (W.alloc (.cells #[.int .i64 p, .int .i64 q1, .int .i64 q2, .int .i64 q3, .int .i64 q4, .slice A l.length cc] 29)) (.cells #[.int .i64 p, .int .i64 q1, .int .i64 q2, .int .i64 q3, .int .i64 q4, .slice A l.length cc] 29)
          rw [World.size_alloc] at n1
          have n0 := blk_alloc n0 (.cells #[.int .i64 p, .int .i64 q1, .int .i64 q2, .int .i64 q3, .int .i64 q4, .slice A l.length cc] 29)
          have B2 : Below W.heap.size W ((W.alloc (.cells #[.int .i64 p, .int .i64 q1, .int .i64 q2, .int .i64 q3, .int .i64 q4, .slice A l.length cc] 29)).alloc (.cells #[.int .i64 p, .int .i64 q1, .int .i64 q2, .int .i64 q3, .int .i64 q4, .slice A l.length cc] 29)) := bA (bA (Below.refl _ _) _) _
          have KJ := Aside0.mk (HJ.out.next B2)
          have HMKlt : Aside0 (∀ r ∈ rs, r < W.heap.size) := ⟨fun r hr => HMK.out.lt hr⟩
          have KM : Aside0 (Marks w.heap.size rs ((W.alloc (.cells #[.int .i64 p, .int .i64 q1, .int .i64 q2, .int .i64 q3, .int .i64 q4, .slice A l.length cc] 29)).alloc (.cells #[.int .i64 p, .int .i64 q1, .int .i64 q2, .int .i64 q3, .int .i64 q4, .slice A l.length cc] 29))) := ⟨⟨HMK.out.nodup, HMK.out.ge, fun r hr => (B2.block _ (HMK.out.lt hr)).trans (HMK.out.has r hr)⟩⟩
          have N0 := Aside0.mk n0
          clear n0 B2 HJ HMK
          simp only [World.size_alloc]
          generalize hg10 : W.heap.size = g10 at HMKlt N0 n1 ⊢
          have lg10 : w.heap.size + 1 + 1 + 1 + 1 + 1 + 1 < g10 := by rw [← hg10]; exact hlt6
          clear hg10 hlt6
          generalize (W.alloc (.cells #[.int .i64 p, .int .i64 q1, .int .i64 q2, .int .i64 q3, .int .i64 q4, .slice A l.length cc] 29)).alloc (.cells #[.int .i64 p, .int .i64 q1, .int .i64 q2, .int .i64 q3, .int .i64 q4, .slice A l.length cc] 29) = W9 at KJ KM N0 n1 ⊢
          gi_wp2_with fail
          have B9 := KJ.out.below
          have s9 : g10 + 1 < W9.heap.size := blk_lt n1
          have hst2 := HST.out
          rw [HSTEP.out] at hst2
          have HST2 := Aside0.mk hst2
          clear hst2 HST
          refine rangeFunc_LA (F := Fence.wide) rfl (by omega) (gf := 73) (lb := #[.pointer (some ⟨g10 + 1, 0, none⟩)]) rfl trivial (enters_of Try.func73 (by kernel_rfl) rfl)
            (counted_seq (4 - 1) (by omega) w (g10 + 1) _ _ _ _ _ A cc l hrow.out W9 n1 (LikeAt.of_below B9)) keptAt_t
            (fun W l o o' hl ho h1 h2 k hk => World.putObj_heap_other (by have := B9.size; omega)) (Below.refl _ _) (fun _ => rfl)
            (fun j W' => ∃ (n' : Nat) (D' : DI) (m' : List SB), Marks w.heap.size rs W' ∧ JB w W' #[.int .i64 a0, .int .i64 a1, .int .i64 a2, .int .i64 a3, .int .i64 a4, .slice A0 l0.length c0] #[.int .i64 b0, .int .i64 b1, .int .i64 b2, .int .i64 b3, .int .i64 b4, .slice A1 l1.length c1] #[.int .i64 a0, .int .i64 a1, .int .i64 a2, .int .i64 a3, .int .i64 a4, .slice A0 l0.length c0, .int .i64 b0, .int .i64 b1, .int .i64 b2, .int .i64 b3, .int .i64 b4, .slice A1 l1.length c1] pr n' D' ∧ MapIs D' m' ∧ n' ≤ nbG l0 l1 i + j ∧ (addG k pr p (l.drop j) m').bind (stG k pr a0 b0 l0 l1 (endG a1 a2 a3 a4 b1 b2 b3 b4 pr) (i + 1)) = some (r1, r2, r3, r4, r5, r6, r7) ∧ W'.heap[g10]? = some (.cells #[.int .i64 p, .int .i64 q1, .int .i64 q2, .int .i64 q3, .int .i64 q4, .slice A l.length cc] 29 (0, 0)))
            (fun _ _ _ => False)
            (fun s X Y row hs hg hr => by
              obtain ⟨n', D', m', h1, h2, h3, h4, h5, h6⟩ := hs
              exact ⟨n', D', m', h1.grown hg hr (fun r hm => by have := HMKlt.out r hm; omega), h2.kept (by omega) hg hr, h3, h4, h5, blk_kept' h6 hg hr⟩)
            (fun _ _ _ _ _ hs _ _ => hs)
            ⟨n, D, m, KM.out, KJ.out, HM.out, by have := HN.out; omega, by rw [List.drop_zero]; exact HST2.out, N0.out⟩
            ?a1
            (fun j g W => W.heap[g]? = some (.cells #[.int .i64 (rd_T66 l (j : Int)).f0, .int .i64 (rd_T66 l (j : Int)).f1] 66 (0, 0)))
            (fun j g s X Y row hs hg hr => blk_kept' hs hg hr)
            (fun hXs hg k hk => hg.block k (by have := B9.size; omega) (by simp)) ?assign ?body ?done ?stop
          case assign =>
            intro lp j W' K hj hK
            unfold encB
            gi_wp2
            obtain ⟨g, hgg⟩ : ∃ g, g = W'.heap.size := ⟨_, rfl⟩
            have hfin := hK g _ (by rw [hgg]; exact World.alloc_heap_new W' _) (World.grownBy_alloc W' _ none) (by omega) (by rw [hgg]; simp)
            rw [← hgg]
            exact hfin
          case body =>
            rintro lp j g Y hj ⟨n', D', m', y1, y2, y3, y4, y5, y6⟩ hg hg0 hg1
            have hdr : l.drop j = rd_T66 l (j : Int) :: l.drop (j + 1) := by
              rw [List.drop_eq_getElem_cons hj]
              congr 1
              simp [rd_T66, List.getD, List.getElem?_eq_getElem hj]
            rw [hdr, addG] at y5
            generalize rd_T66 l (j : Int) = z at *
            obtain ⟨mm, hmm', hend⟩ := Option.bind_eq_some_iff.1 y5
            obtain ⟨⟨lo, hi'⟩, hlo, hmm2⟩ := Option.bind_eq_some_iff.1 hmm'
            obtain ⟨ix, hix, hmm3⟩ := Option.bind_eq_some_iff.1 hmm2
            split at hmm3
            case isFalse => cases hmm3
            rename_i hrange
            have hend2 : (addG k pr p (l.drop (j + 1)) (putL m' ix z.f1)).bind (stG k pr a0 b0 l0 l1 (endG a1 a2 a3 a4 b1 b2 b3 b4 pr) (i + 1)) = some (r1, r2, r3, r4, r5, r6, r7) := by rw [hmm3]; exact hend
            have HEND := Aside0.mk hend2
            have HLO := Aside0.mk hlo
            have HIX := Aside0.mk hix
            have HRNG := Aside0.mk hrange
            have KJ1 := Aside0.mk y2
            have KJ1B := Aside0.mk y2.below
            have KM1 := Aside0.mk y1
            have HM1 := Aside0.mk y3
            have HN1 := Aside0.mk y4
            have N1 := Aside0.mk y6
            have NG := Aside0.mk hg
            have v0 : Y.cell? ⟨g10, 0, none⟩ = some (.int .i64 p) := (blk_cell y6 0).trans rfl
            have v1 : Y.cell? ⟨g, 0, none⟩ = some (.int .i64 z.f0) := (blk_cell hg 0).trans rfl
            clear hdr y1 y2 y3 y4 y5 y6 hg hmm' hmm2 hmm3 hlo hix hrange hend hend2 HST2
            gi_wp2_with fail
            refine ⟨trivial, (CallsIn.inRound lp (callsIn_wide.2 (loghist_bounds.calls p z.f0 lo hi' Y HLO.out))).mono ?_⟩
            rintro e X ⟨rfl, hb⟩
            have KJ2 := Aside0.mk (KJ1.out.next hb)
            have KM2 : Aside0 (Marks w.heap.size rs X) := ⟨⟨KM1.out.nodup, KM1.out.ge, fun r hr => (hb.block _ (KM1.out.lt hr)).trans (KM1.out.has r hr)⟩⟩
            have N2 := Aside0.mk (blk_below N1.out hb)
            have HB2 := Aside0.mk hb
            have v2 : X.cell? ⟨g, 1, none⟩ = some (.int .i64 z.f1) := (blk_cell (blk_below NG.out hb) 1).trans rfl
            have v3 : X.cell? ⟨w.heap.size + 1 + 1, 0, none⟩ = some (.int .i64 pr) := (blk_cell KJ2.out.k5 0).trans rfl
            have v4 : X.cell? ⟨w.heap.size + 1 + 1 + 1 + 1 + 1, 0, none⟩ = some (.map (some (w.heap.size + 1 + 1 + 1 + 1))) := (blk_cell KJ2.out.km 0).trans rfl
            have hkey : keyOf Try.prog 3 (.int .i64 ix) = some (lk ix) := keyOf_int_mk Try.underlying3 (WalkArith.wf_i64 (by have := HRNG.out; rw [big_is] at this; omega))
            have HKEY := Aside0.mk hkey
            have hlk : ∀ nq, (Instr.lookup 86 (.map (some (w.heap.size + 1 + 1 + 1 + 1))) (.int .i64 ix) false).run Try.prog (X.drewN nq) = .ok (.int .i64 (getL m' ix)) (X.drewN nq) := fun nq => by
              have ho : (X.drewN nq).ownsMap Try.prog 3 (plainElem Try.prog 3) (w.heap.size + 1 + 1 + 1 + 1) n' D' := KJ2.out.own
              obtain ⟨cv, hrun, hat, _⟩ := ho.lookup_int keyI Try.underlying86 Try.underlying3 (zeroI _) HKEY.out
              rw [HM1.out.look ix] at hat
              injection hat with hat
              injection hat with _ hat
              rw [hrun, hat]
            clear v0 v1 hb KJ1 KM1 N1 NG hkey
            gi_wp2_with fail
            refine round_quiet_tail 8 (by kernel_rfl) (by kernel_rfl) (by kernel_rfl) (fun ⟨_, _, h⟩ => h) ?_
            simp only [List.take_succ_cons, List.take_zero, List.drop_succ_cons, List.drop_zero]
            repeat (first | go_big_quiet_step ((go_at_call 40; (with_reducible refine (loghist_index.calls k pr lo ix _ HIX.out).mono ?_); rintro e' w' ⟨rfl, ⟨nd, rfl⟩⟩; exact ⟨rfl, _, World.drewN_drewN _ _ _⟩)) | quiet_step ((go_at_call 40; (with_reducible refine (loghist_index.calls k pr lo ix _ HIX.out).mono ?_); rintro e' w' ⟨rfl, ⟨nd, rfl⟩⟩; exact ⟨rfl, _, World.drewN_drewN _ _ _⟩)))
            refine wpQuiet_nil ?_
            rintro _ ⟨nq, rfl⟩
            have hb0 : Below X.heap.size X (X.drewN nq) := pw_below_drewN (Below.refl _ _) nq
            have KJ3 := Aside0.mk (KJ2.out.next hb0)
            have HWF := Aside0.mk (show (Lit.int .i64 (wrap64 (getL m' ix + z.f1))).wf = true from WalkArith.wf_i64 (by unfold wrap64; omega))
            have HMX := Aside0.mk (show n' < maxLen by have h1 := HN1.out; have h2 := HNB.out; unfold maxLen; omega)
            clear hlk v2 v3 v4 hb0
            go_wp2_with (at_mapUpdate; refine wpList_mapUpdate_own _ rfl _ _ _ 86 rfl 3 3 keyI Try.underlying86 _ (w.heap.size + 1 + 1 + 1 + 1) n' D' rfl KJ3.out.own HMX.out (.int .i64 ix) (.int .i64 (wrap64 (getL m' ix + z.f1))) (lk ix) rfl rfl HKEY.out (.lit (.int .i64 (wrap64 (getL m' ix + z.f1)))) [] (plainElem_int Try.underlying3 HWF.out) ?_; intro X6 hown6 hg6; have O6 := Aside0.mk hown6; have G6 := Aside0.mk hg6; clear hown6 hg6)
            gi_wp2
            have KJ6 := KJ3.out.mapped G6.out O6.out
            have hX6 : ∀ q, q < X.heap.size → q ≠ w.heap.size + 1 + 1 + 1 + 1 → X6.heap[q]? = X.heap[q]? := fun q hq hne => G6.out.block q hq (fun e => hne (by injection e))
            have KM6 : Marks w.heap.size rs X6 := ⟨KM2.out.nodup, KM2.out.ge, fun r hr => (hX6 r (KM2.out.lt hr) (fun e => by
              have h1 := KM2.out.has r hr
              obtain ⟨es, clock, h2, _⟩ := KJ2.out.own
              rw [e, h2] at h1
              cases h1)).trans (KM2.out.has r hr)⟩
            refine ⟨⟨by have h1 := HB2.out.size; have h2 := G6.out.size; exact Nat.le_trans h1 h2, fun q o hq hqo hc => (hX6 q (Nat.lt_of_lt_of_le (Array.getElem?_eq_some_iff.1 hqo).1 HB2.out.size) (by have := KJ.out.ks; have := blk_lt this; omega)).trans ((HB2.out.block q (Array.getElem?_eq_some_iff.1 hqo).1).trans hqo)⟩, fun q hq => (KJ6.below.block q hq).trans (KJ1B.out.block q hq).symm, n' + 1, _, putL m' ix z.f1, KM6, KJ6, HM1.out.put ix z.f1, by have := HN1.out; omega, HEND.out, (hX6 g10 (blk_lt N2.out) (by omega)).trans N2.out⟩
          case done =>
            rintro DD Y hD ⟨n', D', m', y1, y2, y3, y4, y5, y6⟩ hK
            rw [List.drop_length, addG] at y5
            have HS5 := Aside0.mk y5
            have KJ1 := Aside0.mk y2
            have KM1 := Aside0.mk (y1.cons (fun r hr => by have := HMKlt.out r hr; omega) (by have := B9.size; omega) hK)
            have HM1 := Aside0.mk y3
            have HN1 := Aside0.mk y4
            clear y1 y2 y3 y4 y5 y6 hK HST2
            gi_wp2
            refine ⟨?_, by simp [intOf]; omega⟩
            rw [HI.out]
            exact ⟨i + 1, DD :: rs, n', D', m', ⟨by omega, KM1.out, KJ1.out, HM1.out, by have := HN1.out; have := HNB.out; omega, HS5.out⟩, rfl, frame_ex _ (by rfl)⟩
          case stop =>
            rintro DD c j Y _ _ h _
            exact h.elim
        · obtain rfl : i = 2 := by omega
          have hE : endG a1 a2 a3 a4 b1 b2 b3 b4 pr m = some (r1, r2, r3, r4, r5, r6, r7) := HST.out
          have hlen := fun ty => HJ.out.own.len Try.underlying86 ty
          rw [HM.out.size] at hlen
          have v4 : W.cell? ⟨w.heap.size + 1 + 1 + 1 + 1 + 1, 0, none⟩ = some (.map (some (w.heap.size + 1 + 1 + 1 + 1))) := (blk_cell HJ.out.km 0).trans rfl
          have HZ := Aside0.mk HJ.out.k6
          unfold endG at hE
          clear HST HN
          by_cases g3 : (500 : Int) < m.length
          · rw [if_pos g3] at hE
            cases hE
            have g3b : decide ((500 : Int) < (m.length : Int)) = true := decide_eq_true g3
            have g3c : decide (500 < m.length) = true := decide_eq_true (by omega)
            have f0 := blk_frozen HZ.out 0
            have f1 := blk_frozen HZ.out 1
            have f2 := blk_frozen HZ.out 2
            have f3 := blk_frozen HZ.out 3
            have f4 := blk_frozen HZ.out 4
            have f5 := blk_frozen HZ.out 5
            have c0 : W.cell? ⟨w.heap.size + 1 + 1 + 1, 0, none⟩ = some (.int .i64 0) := (blk_cell HZ.out 0).trans rfl
            have c1 : W.cell? ⟨w.heap.size + 1 + 1 + 1, 1, none⟩ = some (.int .i64 0) := (blk_cell HZ.out 1).trans rfl
            have c2 : W.cell? ⟨w.heap.size + 1 + 1 + 1, 2, none⟩ = some (.int .i64 0) := (blk_cell HZ.out 2).trans rfl
            have c3 : W.cell? ⟨w.heap.size + 1 + 1 + 1, 3, none⟩ = some (.int .i64 0) := (blk_cell HZ.out 3).trans rfl
            have c4 : W.cell? ⟨w.heap.size + 1 + 1 + 1, 4, none⟩ = some (.int .i64 0) := (blk_cell HZ.out 4).trans rfl
            have c5 : W.cell? ⟨w.heap.size + 1 + 1 + 1, 5, none⟩ = some (.slice none 0 0) := (blk_cell HZ.out 5).trans rfl
            gi_wp2
            exact ret_hist (b := w.heap.size + 1 + 1 + 1) (rs := rs) rfl (put6 HZ.out _ _ _ _ _ _) (Kd.R_nil _ _ _ _ _) (below6 HJ.out.below (by omega) _ _ _ _ _ _) (by rfl) (by rfl) (by rfl) (marks6 HMK.out _ _ _ _ _ _) (Nat.le_refl _)
          · rw [if_neg g3] at hE
            split at hE
            case isFalse => cases hE
            rename_i hok
            have g3b : decide ((500 : Int) < (m.length : Int)) = false := decide_eq_false g3
            have g3c : decide (500 < m.length) = false := decide_eq_false (by omega)
            have HOK := Aside0.mk hok
            have HE := Aside0.mk hE
            have HL5 := Aside0.mk g3
            clear g3 hok hE
            gi_wp2_with fail
            have e0 : W.cell? ⟨w.heap.size, 1, none⟩ = some (.int .i64 a1) := (blk_cell HJ.out.k3 1).trans rfl
            have e1 : W.cell? ⟨w.heap.size, 2, none⟩ = some (.int .i64 a2) := (blk_cell HJ.out.k3 2).trans rfl
            have e2 : W.cell? ⟨w.heap.size + 1, 1, none⟩ = some (.int .i64 b1) := (blk_cell HJ.out.k4 1).trans rfl
            have e3 : W.cell? ⟨w.heap.size + 1, 2, none⟩ = some (.int .i64 b2) := (blk_cell HJ.out.k4 2).trans rfl
            have e4 : W.cell? ⟨w.heap.size + 1 + 1, 0, none⟩ = some (.int .i64 pr) := (blk_cell HJ.out.k5 0).trans rfl
            clear hlen
            have hS : ∀ W1, Below W.heap.size W W1 → (Below W.heap.size W W1 ∧ W1.cell? ⟨w.heap.size, 1, none⟩ = some (.int .i64 a1) ∧ W1.cell? ⟨w.heap.size, 2, none⟩ = some (.int .i64 a2) ∧ W1.cell? ⟨w.heap.size + 1, 1, none⟩ = some (.int .i64 b1) ∧ W1.cell? ⟨w.heap.size + 1, 2, none⟩ = some (.int .i64 b2) ∧ W1.cell? ⟨w.heap.size + 1 + 1, 0, none⟩ = some (.int .i64 pr) ∧ W1.cell? ⟨w.heap.size + 1 + 1 + 1 + 1 + 1, 0, none⟩ = some (.map (some (w.heap.size + 1 + 1 + 1 + 1)))) := fun W1 hb1 =>
              ⟨hb1, (hb1.cell (World.block_lt_of_cell? _ _ e0)).trans e0, (hb1.cell (World.block_lt_of_cell? _ _ e1)).trans e1, (hb1.cell (World.block_lt_of_cell? _ _ e2)).trans e2, (hb1.cell (World.block_lt_of_cell? _ _ e3)).trans e3, (hb1.cell (World.block_lt_of_cell? _ _ e4)).trans e4, (hb1.cell (World.block_lt_of_cell? _ _ v4)).trans v4⟩
            have HS := Aside0.mk hS
            clear hS e0 e1 e2 e3 e4 v4
            refine wpIn_wide.2 ?_
            refine Code.wp_mono (Q := fun e a W1 => e = .normal ∧ ∃ (b14 : Nat) (v : Value), Below W.heap.size W W1 ∧ W.heap.size ≤ b14 ∧ W1.heap[b14]? = some (.cells #[.int .i64 pr, .int .i64 (wrap64 (a1 + b1)), .int .i64 (wrap64 (a2 + b2)), .int .i64 0, .int .i64 0, v] 29 (0, 0)) ∧ Kd.R kB 66 W1 w.heap.size (fun k => k ≠ b14) v m ∧ a.defers = rs.map mkD ∧ ∃ f' : Nat → Value, a.tmps = #[.agg #[.int .i64 a0, .int .i64 a1, .int .i64 a2, .int .i64 a3, .int .i64 a4, .slice A0 l0.length c0], .agg #[.int .i64 b0, .int .i64 b1, .int .i64 b2, .int .i64 b3, .int .i64 b4, .slice A1 l1.length c1], .int .i64 pr, .pointer (some ⟨w.heap.size, 0, none⟩), .pointer (some ⟨w.heap.size + 1, 0, none⟩), .pointer (some ⟨w.heap.size + 1 + 1, 0, none⟩), .pointer (some ⟨w.heap.size + 1 + 1 + 1, 0, none⟩), .int .i64 0, .pointer (some ⟨w.heap.size + 1 + 1 + 1 + 1 + 1, 0, none⟩), f' 9, f' 10, f' 11, f' 12, f' 13, .pointer (some ⟨b14, 0, none⟩), f' 15, f' 16, f' 17, f' 18, f' 19, f' 20, f' 21, f' 22, f' 23, f' 24, .slice (some ⟨w.heap.size + 1 + 1 + 1 + 1 + 1 + 1, 0, none⟩) 2 2, .int .i64 2, .int .i64 2, f' 28, f' 29, f' 30, f' 31, f' 32, f' 33, f' 34, f' 35, f' 36, f' 37, f' 38, f' 39, f' 40, f' 41, f' 42, f' 43, f' 44, f' 45, f' 46, f' 47, f' 48, f' 49, f' 50, f' 51, f' 52, f' 53, f' 54, f' 55, f' 56, f' 57, f' 58, f' 59, f' 60, f' 61, f' 62, f' 63, f' 64, f' 65, f' 66, f' 67, f' 68, f' 69, f' 70, f' 71, f' 72, f' 73, f' 74, f' 75, f' 76, f' 77, f' 78, f' 79, f' 80, f' 81, f' 82, f' 83, f' 84, f' 85, f' 86, f' 87, f' 88, f' 89, f' 90, f' 91, f' 92, f' 93, f' 94, f' 95, f' 96, f' 97, f' 98, f' 99, f' 100, f' 101, f' 102]) ?rest14 ?reg14
            case reg14 =>
              go_region_held3 (fun W1 => Below W.heap.size W W1 ∧ W1.cell? ⟨w.heap.size, 1, none⟩ = some (.int .i64 a1) ∧ W1.cell? ⟨w.heap.size, 2, none⟩ = some (.int .i64 a2) ∧ W1.cell? ⟨w.heap.size + 1, 1, none⟩ = some (.int .i64 b1) ∧ W1.cell? ⟨w.heap.size + 1, 2, none⟩ = some (.int .i64 b2) ∧ W1.cell? ⟨w.heap.size + 1 + 1, 0, none⟩ = some (.int .i64 pr) ∧ W1.cell? ⟨w.heap.size + 1 + 1 + 1 + 1 + 1, 0, none⟩ = some (.map (some (w.heap.size + 1 + 1 + 1 + 1))))
                ((refine HS.out _ ?_; first | (simp only [bel_drew]; done) | (simp only [bel_drewA]; done) | (simp only [hW]; done) | (simp only [bA hW]; done) | (simp only [fun y0 y1 y2 y3 y4 y5 => below6 hW (Nat.le_refl _) y0 y1 y2 y3 y4 y5]; done) | (trace_state; fail)))
                (with_reducible refine (sorted_calls (w.heap.size + 1 + 1 + 1 + 1) n D m _ (HJ.out.next (And.left (by assumption))).own HM.out (by have := HL5.out; omega) HOK.out).mono ?_; rintro e' W' ⟨v, rfl, hR, hb⟩; have hW : Below W.heap.size W W' := (by first | (with_reducible exact bel_first hb) | (with_reducible exact bel_firstA hb)); obtain ⟨A9, c9, rfl⟩ := Kd.R_slice hR; have HR := Aside0.mk hR; clear hR; try ((with_reducible have N14 := after_alloc hb); have z0 : W'.cell? ⟨W.heap.size, 0, none⟩ = some (.int .i64 0) := (blk_cell N14 0).trans rfl; have y0 := blk_frozen N14 0; have z1 : W'.cell? ⟨W.heap.size, 1, none⟩ = some (.int .i64 0) := (blk_cell N14 1).trans rfl; have y1 := blk_frozen N14 1; have z2 : W'.cell? ⟨W.heap.size, 2, none⟩ = some (.int .i64 0) := (blk_cell N14 2).trans rfl; have y2 := blk_frozen N14 2; have z3 : W'.cell? ⟨W.heap.size, 3, none⟩ = some (.int .i64 0) := (blk_cell N14 3).trans rfl; have y3 := blk_frozen N14 3; have z4 : W'.cell? ⟨W.heap.size, 4, none⟩ = some (.int .i64 0) := (blk_cell N14 4).trans rfl; have y4 := blk_frozen N14 4; have z5 : W'.cell? ⟨W.heap.size, 5, none⟩ = some (.slice none 0 0) := (blk_cell N14 5).trans rfl; have y5 := blk_frozen N14 5; have NN := Aside0.mk N14; clear N14))
              · simp only [wrap_is]
                exact ⟨trivial, W'.heap.size, _, bA hW _, hW.size, World.alloc_heap_new W' _, Kd.R_alloc (R_newW HR.out HJ.out.below.size) _, trivial, frame_ex _ (by rfl)⟩
              · simp only [wrap_is]
                exact ⟨trivial, W.heap.size, _, below6 hW (Nat.le_refl _) _ _ _ _ _ _, Nat.le_refl _, put6 NN.out _ _ _ _ _ _, R_set6 (R_newA HR.out HJ.out.below.size) (fun _ hk => hk) _ _ _ _ _ _, trivial, frame_ex _ (by rfl)⟩
            case rest14 =>
              rintro _ ⟨tm2, df2⟩ W1 ⟨rfl, b14, v, hb1, hle, h14, hR, hdf2, f', htm2⟩
              dsimp only at hdf2 htm2
              subst hdf2 htm2
              have JW := Aside0.mk (HJ.out.next hb1)
              have MW : Aside0 (Marks w.heap.size rs W1) := ⟨⟨HMK.out.nodup, HMK.out.ge, fun r hr => (hb1.block _ (HMK.out.lt hr)).trans (HMK.out.has r hr)⟩⟩
              have LE := Aside0.mk hle
              have R14 := Aside0.mk hR
              have MK14 : Aside0 (∀ r ∈ rs, r < W.heap.size) := ⟨fun r hr => HMK.out.lt hr⟩
              have H14 := Aside0.mk h14
              have LT6 := Aside0.mk (blk_lt HJ.out.ks)
              obtain ⟨A9, c9, rfl⟩ := Kd.R_slice hR
              clear hb1 hle hR h14 HS
              have v1 : W1.cell? ⟨w.heap.size, 1, none⟩ = some (.int .i64 a1) := (blk_cell JW.out.k3 1).trans rfl
              have v2 : W1.cell? ⟨w.heap.size + 1, 1, none⟩ = some (.int .i64 b1) := (blk_cell JW.out.k4 1).trans rfl
              have v3 : W1.cell? ⟨w.heap.size, 3, none⟩ = some (.int .i64 a3) := (blk_cell JW.out.k3 3).trans rfl
              have v4 : W1.cell? ⟨w.heap.size, 4, none⟩ = some (.int .i64 a4) := (blk_cell JW.out.k3 4).trans rfl
              have v5 : W1.cell? ⟨w.heap.size + 1, 3, none⟩ = some (.int .i64 b3) := (blk_cell JW.out.k4 3).trans rfl
              have v6 : W1.cell? ⟨w.heap.size + 1, 4, none⟩ = some (.int .i64 b4) := (blk_cell JW.out.k4 4).trans rfl
              have z3 : W1.cell? ⟨b14, 3, none⟩ = some (.int .i64 0) := (blk_cell H14.out 3).trans rfl
              have z4 : W1.cell? ⟨b14, 4, none⟩ = some (.int .i64 0) := (blk_cell H14.out 4).trans rfl
              have y3 := blk_frozen H14.out 3
              have y4 := blk_frozen H14.out 4
              have hlt0 : w.heap.size + 1 + 1 + 1 + 1 + 1 + 1 < W.heap.size := LT6.out
              have hS2 : ∀ W2, Below W.heap.size W1 W2 → (Below W.heap.size W1 W2 ∧ W2.cell? ⟨w.heap.size, 3, none⟩ = some (.int .i64 a3) ∧ W2.cell? ⟨w.heap.size, 4, none⟩ = some (.int .i64 a4) ∧ W2.cell? ⟨w.heap.size + 1, 3, none⟩ = some (.int .i64 b3) ∧ W2.cell? ⟨w.heap.size + 1, 4, none⟩ = some (.int .i64 b4)) := fun W2 hb2 =>
                ⟨hb2, (hb2.cell (show w.heap.size < W.heap.size by omega)).trans v3, (hb2.cell (show w.heap.size < W.heap.size by omega)).trans v4, (hb2.cell (show w.heap.size + 1 < W.heap.size by omega)).trans v5, (hb2.cell (show w.heap.size + 1 < W.heap.size by omega)).trans v6⟩
              have HS2 := Aside0.mk hS2
              clear hS2 hlt0 v3 v4 v5 v6
              by_cases x1 : a1 = 0
              · have hE1 := HE.out
                rw [if_pos x1] at hE1
                cases hE1
                have x1b : (a1 == 0) = true := by simp [x1]
                have x1c : decide (a1 = 0) = true := by simp [x1]
                clear x1
                gi_wp2_with fail
                refine wpIn_wide.2 ?_
                refine Code.wp_mono (Q := fun e a W2 => e = .normal ∧ Below W.heap.size W1 W2 ∧ W2.heap[b14]? = some (.cells #[.int .i64 pr, .int .i64 (wrap64 (a1 + b1)), .int .i64 (wrap64 (a2 + b2)), .int .i64 b3, .int .i64 b4, .slice A9 r6.length c9] 29 (0, 0)) ∧ Kd.R kB 66 W2 w.heap.size (fun k => k ≠ b14) (.slice A9 r6.length c9) r6 ∧ a.defers = rs.map mkD ∧ ∃ f2 : Nat → Value, a.tmps = #[.agg #[.int .i64 a0, .int .i64 a1, .int .i64 a2, .int .i64 a3, .int .i64 a4, .slice A0 l0.length c0], .agg #[.int .i64 b0, .int .i64 b1, .int .i64 b2, .int .i64 b3, .int .i64 b4, .slice A1 l1.length c1], .int .i64 pr, .pointer (some ⟨w.heap.size, 0, none⟩), .pointer (some ⟨w.heap.size + 1, 0, none⟩), .pointer (some ⟨w.heap.size + 1 + 1, 0, none⟩), .pointer (some ⟨w.heap.size + 1 + 1 + 1, 0, none⟩), .int .i64 0, .pointer (some ⟨w.heap.size + 1 + 1 + 1 + 1 + 1, 0, none⟩), f2 9, f2 10, f2 11, f2 12, f2 13, .pointer (some ⟨b14, 0, none⟩), f2 15, f2 16, f2 17, f2 18, f2 19, f2 20, f2 21, f2 22, f2 23, f2 24, .slice (some ⟨w.heap.size + 1 + 1 + 1 + 1 + 1 + 1, 0, none⟩) 2 2, .int .i64 2, .int .i64 2, f2 28, f2 29, f2 30, f2 31, f2 32, f2 33, f2 34, f2 35, f2 36, f2 37, f2 38, f2 39, f2 40, f2 41, f2 42, f2 43, f2 44, f2 45, f2 46, f2 47, f2 48, f2 49, f2 50, f2 51, f2 52, f2 53, f2 54, f2 55, f2 56, f2 57, f2 58, f2 59, f2 60, f2 61, f2 62, f2 63, f2 64, f2 65, f2 66, f2 67, f2 68, f2 69, f2 70, f2 71, f2 72, f2 73, f2 74, f2 75, f2 76, f2 77, f2 78, f2 79, f2 80, f2 81, f2 82, f2 83, f2 84, f2 85, f2 86, f2 87, f2 88, f2 89, f2 90, f2 91, f2 92, f2 93, f2 94, f2 95, f2 96, f2 97, f2 98, f2 99, f2 100, f2 101, f2 102]) ?rest15 ?reg15
                case reg15 =>
                  go_region_held3 (fun W2 => Below W.heap.size W1 W2 ∧ W2.cell? ⟨w.heap.size, 3, none⟩ = some (.int .i64 a3) ∧ W2.cell? ⟨w.heap.size, 4, none⟩ = some (.int .i64 a4) ∧ W2.cell? ⟨w.heap.size + 1, 3, none⟩ = some (.int .i64 b3) ∧ W2.cell? ⟨w.heap.size + 1, 4, none⟩ = some (.int .i64 b4))
                    ((refine HS2.out _ ?_; first | (simp only [bd0]; done) | (simp only [fun i u => bd1 (W := W1) LE.out i u]; done) | (simp only [fun i j u v => bd2 (W := W1) LE.out i j u v]; done) | (trace_state; fail)))
                    (fail)
                  all_goals refine ⟨rfl, ?_, ?_, ?_, rfl, frame_ex _ (by rfl)⟩
                  all_goals first | (with_reducible exact bd2 LE.out _ _ _ _) | (with_reducible exact put34 H14.out _ _) | (with_reducible exact put43 H14.out _ _) | (with_reducible exact R_set2 R14.out _ _) | (trace_state; fail)
                case rest15 =>
                  rintro _ ⟨tm3, df3⟩ W2 ⟨rfl, hb2, h15, hR2, hdf3, f2, htm3⟩
                  dsimp only at hdf3 htm3
                  subst hdf3 htm3
                  have JX := Aside0.mk (JW.out.next2 hb2 LT6.out)
                  have MX : Aside0 (Marks w.heap.size rs W2) := ⟨⟨MW.out.nodup, MW.out.ge, fun r hr => (hb2.block _ (MK14.out r hr)).trans (MW.out.has r hr)⟩⟩
                  have R15 := Aside0.mk hR2
                  have H15 := Aside0.mk h15
                  have p0 : W2.cell? ⟨b14, 0, none⟩ = some (.int .i64 pr) := (blk_cell H15.out 0).trans rfl
                  have p1 : W2.cell? ⟨b14, 1, none⟩ = some (.int .i64 (wrap64 (a1 + b1))) := (blk_cell H15.out 1).trans rfl
                  have p2 : W2.cell? ⟨b14, 2, none⟩ = some (.int .i64 (wrap64 (a2 + b2))) := (blk_cell H15.out 2).trans rfl
                  have p3 : W2.cell? ⟨b14, 3, none⟩ = some (.int .i64 b3) := (blk_cell H15.out 3).trans rfl
                  have p4 : W2.cell? ⟨b14, 4, none⟩ = some (.int .i64 b4) := (blk_cell H15.out 4).trans rfl
                  have p5 : W2.cell? ⟨b14, 5, none⟩ = some (.slice A9 r6.length c9) := (blk_cell H15.out 5).trans rfl
                  have q0 : W2.cell? ⟨w.heap.size + 1 + 1 + 1, 0, none⟩ = some (.int .i64 0) := (blk_cell JX.out.k6 0).trans rfl
                  have u0 := blk_frozen JX.out.k6 0
                  have q1 : W2.cell? ⟨w.heap.size + 1 + 1 + 1, 1, none⟩ = some (.int .i64 0) := (blk_cell JX.out.k6 1).trans rfl
                  have u1 := blk_frozen JX.out.k6 1
                  have q2 : W2.cell? ⟨w.heap.size + 1 + 1 + 1, 2, none⟩ = some (.int .i64 0) := (blk_cell JX.out.k6 2).trans rfl
                  have u2 := blk_frozen JX.out.k6 2
                  have q3 : W2.cell? ⟨w.heap.size + 1 + 1 + 1, 3, none⟩ = some (.int .i64 0) := (blk_cell JX.out.k6 3).trans rfl
                  have u3 := blk_frozen JX.out.k6 3
                  have q4 : W2.cell? ⟨w.heap.size + 1 + 1 + 1, 4, none⟩ = some (.int .i64 0) := (blk_cell JX.out.k6 4).trans rfl
                  have u4 := blk_frozen JX.out.k6 4
                  have q5 : W2.cell? ⟨w.heap.size + 1 + 1 + 1, 5, none⟩ = some (.slice none 0 0) := (blk_cell JX.out.k6 5).trans rfl
                  have u5 := blk_frozen JX.out.k6 5
                  clear hb2 h15 hR2
                  gi_wp2
                  refine ret_hist (b := w.heap.size + 1 + 1 + 1) (rs := rs) (v5 := .slice A9 r6.length c9) rfl ?e1 ?e2 ?e3 (by rfl) (by rfl) (by rfl) ?e4 (Nat.le_refl _)
                  case e1 => with_reducible exact put6 JX.out.k6 _ _ _ _ _ _
                  case e2 => with_reducible exact R_hist R15.out JX.out.k6 _ _ _ _ _ _
                  case e3 => with_reducible exact below6 JX.out.below (by omega) _ _ _ _ _ _
                  case e4 => with_reducible exact marks6 MX.out _ _ _ _ _ _
              · by_cases x2 : b1 = 0
                · have hE1 := HE.out
                  rw [if_neg x1, if_pos x2] at hE1
                  cases hE1
                  have x1b : (a1 == 0) = false := by simp [x1]
                  have x1c : decide (a1 = 0) = false := by simp [x1]
                  have x2b : (b1 == 0) = true := by simp [x2]
                  have x2c : decide (b1 = 0) = true := by simp [x2]
                  clear x1 x2
                  gi_wp2_with fail
                  refine wpIn_wide.2 ?_
                  refine Code.wp_mono (Q := fun e a W2 => e = .normal ∧ Below W.heap.size W1 W2 ∧ W2.heap[b14]? = some (.cells #[.int .i64 pr, .int .i64 (wrap64 (a1 + b1)), .int .i64 (wrap64 (a2 + b2)), .int .i64 a3, .int .i64 a4, .slice A9 r6.length c9] 29 (0, 0)) ∧ Kd.R kB 66 W2 w.heap.size (fun k => k ≠ b14) (.slice A9 r6.length c9) r6 ∧ a.defers = rs.map mkD ∧ ∃ f2 : Nat → Value, a.tmps = #[.agg #[.int .i64 a0, .int .i64 a1, .int .i64 a2, .int .i64 a3, .int .i64 a4, .slice A0 l0.length c0], .agg #[.int .i64 b0, .int .i64 b1, .int .i64 b2, .int .i64 b3, .int .i64 b4, .slice A1 l1.length c1], .int .i64 pr, .pointer (some ⟨w.heap.size, 0, none⟩), .pointer (some ⟨w.heap.size + 1, 0, none⟩), .pointer (some ⟨w.heap.size + 1 + 1, 0, none⟩), .pointer (some ⟨w.heap.size + 1 + 1 + 1, 0, none⟩), .int .i64 0, .pointer (some ⟨w.heap.size + 1 + 1 + 1 + 1 + 1, 0, none⟩), f2 9, f2 10, f2 11, f2 12, f2 13, .pointer (some ⟨b14, 0, none⟩), f2 15, f2 16, f2 17, f2 18, f2 19, f2 20, f2 21, f2 22, f2 23, f2 24, .slice (some ⟨w.heap.size + 1 + 1 + 1 + 1 + 1 + 1, 0, none⟩) 2 2, .int .i64 2, .int .i64 2, f2 28, f2 29, f2 30, f2 31, f2 32, f2 33, f2 34, f2 35, f2 36, f2 37, f2 38, f2 39, f2 40, f2 41, f2 42, f2 43, f2 44, f2 45, f2 46, f2 47, f2 48, f2 49, f2 50, f2 51, f2 52, f2 53, f2 54, f2 55, f2 56, f2 57, f2 58, f2 59, f2 60, f2 61, f2 62, f2 63, f2 64, f2 65, f2 66, f2 67, f2 68, f2 69, f2 70, f2 71, f2 72, f2 73, f2 74, f2 75, f2 76, f2 77, f2 78, f2 79, f2 80, f2 81, f2 82, f2 83, f2 84, f2 85, f2 86, f2 87, f2 88, f2 89, f2 90, f2 91, f2 92, f2 93, f2 94, f2 95, f2 96, f2 97, f2 98, f2 99, f2 100, f2 101, f2 102]) ?rest15 ?reg15
                  case reg15 =>
                    go_region_held3 (fun W2 => Below W.heap.size W1 W2 ∧ W2.cell? ⟨w.heap.size, 3, none⟩ = some (.int .i64 a3) ∧ W2.cell? ⟨w.heap.size, 4, none⟩ = some (.int .i64 a4) ∧ W2.cell? ⟨w.heap.size + 1, 3, none⟩ = some (.int .i64 b3) ∧ W2.cell? ⟨w.heap.size + 1, 4, none⟩ = some (.int .i64 b4))
                      ((refine HS2.out _ ?_; first | (simp only [bd0]; done) | (simp only [fun i u => bd1 (W := W1) LE.out i u]; done) | (simp only [fun i j u v => bd2 (W := W1) LE.out i j u v]; done) | (trace_state; fail)))
                      (fail)
                    all_goals refine ⟨rfl, ?_, ?_, ?_, rfl, frame_ex _ (by rfl)⟩
                    all_goals first | (with_reducible exact bd2 LE.out _ _ _ _) | (with_reducible exact put34 H14.out _ _) | (with_reducible exact put43 H14.out _ _) | (with_reducible exact R_set2 R14.out _ _) | (trace_state; fail)
                  case rest15 =>
                    rintro _ ⟨tm3, df3⟩ W2 ⟨rfl, hb2, h15, hR2, hdf3, f2, htm3⟩
                    dsimp only at hdf3 htm3
                    subst hdf3 htm3
                    have JX := Aside0.mk (JW.out.next2 hb2 LT6.out)
                    have MX : Aside0 (Marks w.heap.size rs W2) := ⟨⟨MW.out.nodup, MW.out.ge, fun r hr => (hb2.block _ (MK14.out r hr)).trans (MW.out.has r hr)⟩⟩
                    have R15 := Aside0.mk hR2
                    have H15 := Aside0.mk h15
                    have p0 : W2.cell? ⟨b14, 0, none⟩ = some (.int .i64 pr) := (blk_cell H15.out 0).trans rfl
                    have p1 : W2.cell? ⟨b14, 1, none⟩ = some (.int .i64 (wrap64 (a1 + b1))) := (blk_cell H15.out 1).trans rfl
                    have p2 : W2.cell? ⟨b14, 2, none⟩ = some (.int .i64 (wrap64 (a2 + b2))) := (blk_cell H15.out 2).trans rfl
                    have p3 : W2.cell? ⟨b14, 3, none⟩ = some (.int .i64 a3) := (blk_cell H15.out 3).trans rfl
                    have p4 : W2.cell? ⟨b14, 4, none⟩ = some (.int .i64 a4) := (blk_cell H15.out 4).trans rfl
                    have p5 : W2.cell? ⟨b14, 5, none⟩ = some (.slice A9 r6.length c9) := (blk_cell H15.out 5).trans rfl
                    have q0 : W2.cell? ⟨w.heap.size + 1 + 1 + 1, 0, none⟩ = some (.int .i64 0) := (blk_cell JX.out.k6 0).trans rfl
                    have u0 := blk_frozen JX.out.k6 0
                    have q1 : W2.cell? ⟨w.heap.size + 1 + 1 + 1, 1, none⟩ = some (.int .i64 0) := (blk_cell JX.out.k6 1).trans rfl
                    have u1 := blk_frozen JX.out.k6 1
                    have q2 : W2.cell? ⟨w.heap.size + 1 + 1 + 1, 2, none⟩ = some (.int .i64 0) := (blk_cell JX.out.k6 2).trans rfl
                    have u2 := blk_frozen JX.out.k6 2
                    have q3 : W2.cell? ⟨w.heap.size + 1 + 1 + 1, 3, none⟩ = some (.int .i64 0) := (blk_cell JX.out.k6 3).trans rfl
                    have u3 := blk_frozen JX.out.k6 3
                    have q4 : W2.cell? ⟨w.heap.size + 1 + 1 + 1, 4, none⟩ = some (.int .i64 0) := (blk_cell JX.out.k6 4).trans rfl
                    have u4 := blk_frozen JX.out.k6 4
                    have q5 : W2.cell? ⟨w.heap.size + 1 + 1 + 1, 5, none⟩ = some (.slice none 0 0) := (blk_cell JX.out.k6 5).trans rfl
                    have u5 := blk_frozen JX.out.k6 5
                    clear hb2 h15 hR2
                    gi_wp2
                    refine ret_hist (b := w.heap.size + 1 + 1 + 1) (rs := rs) (v5 := .slice A9 r6.length c9) rfl ?e1 ?e2 ?e3 (by rfl) (by rfl) (by rfl) ?e4 (Nat.le_refl _)
                    case e1 => with_reducible exact put6 JX.out.k6 _ _ _ _ _ _
                    case e2 => with_reducible exact R_hist R15.out JX.out.k6 _ _ _ _ _ _
                    case e3 => with_reducible exact below6 JX.out.below (by omega) _ _ _ _ _ _
                    case e4 => with_reducible exact marks6 MX.out _ _ _ _ _ _
                · have hE1 := HE.out
                  rw [if_neg x1, if_neg x2, mn_is, mx_is] at hE1
                  cases hE1
                  have x1b : (a1 == 0) = false := by simp [x1]
                  have x1c : decide (a1 = 0) = false := by simp [x1]
                  have x2b : (b1 == 0) = false := by simp [x2]
                  have x2c : decide (b1 = 0) = false := by simp [x2]
                  clear x1 x2
                  gi_wp2_with fail
                  refine wpIn_wide.2 ?_
                  refine Code.wp_mono (Q := fun e a W2 => e = .normal ∧ Below W.heap.size W1 W2 ∧ W2.heap[b14]? = some (.cells #[.int .i64 pr, .int .i64 (wrap64 (a1 + b1)), .int .i64 (wrap64 (a2 + b2)), .int .i64 (min a3 b3), .int .i64 (max a4 b4), .slice A9 r6.length c9] 29 (0, 0)) ∧ Kd.R kB 66 W2 w.heap.size (fun k => k ≠ b14) (.slice A9 r6.length c9) r6 ∧ a.defers = rs.map mkD ∧ ∃ f2 : Nat → Value, a.tmps = #[.agg #[.int .i64 a0, .int .i64 a1, .int .i64 a2, .int .i64 a3, .int .i64 a4, .slice A0 l0.length c0], .agg #[.int .i64 b0, .int .i64 b1, .int .i64 b2, .int .i64 b3, .int .i64 b4, .slice A1 l1.length c1], .int .i64 pr, .pointer (some ⟨w.heap.size, 0, none⟩), .pointer (some ⟨w.heap.size + 1, 0, none⟩), .pointer (some ⟨w.heap.size + 1 + 1, 0, none⟩), .pointer (some ⟨w.heap.size + 1 + 1 + 1, 0, none⟩), .int .i64 0, .pointer (some ⟨w.heap.size + 1 + 1 + 1 + 1 + 1, 0, none⟩), f2 9, f2 10, f2 11, f2 12, f2 13, .pointer (some ⟨b14, 0, none⟩), f2 15, f2 16, f2 17, f2 18, f2 19, f2 20, f2 21, f2 22, f2 23, f2 24, .slice (some ⟨w.heap.size + 1 + 1 + 1 + 1 + 1 + 1, 0, none⟩) 2 2, .int .i64 2, .int .i64 2, f2 28, f2 29, f2 30, f2 31, f2 32, f2 33, f2 34, f2 35, f2 36, f2 37, f2 38, f2 39, f2 40, f2 41, f2 42, f2 43, f2 44, f2 45, f2 46, f2 47, f2 48, f2 49, f2 50, f2 51, f2 52, f2 53, f2 54, f2 55, f2 56, f2 57, f2 58, f2 59, f2 60, f2 61, f2 62, f2 63, f2 64, f2 65, f2 66, f2 67, f2 68, f2 69, f2 70, f2 71, f2 72, f2 73, f2 74, f2 75, f2 76, f2 77, f2 78, f2 79, f2 80, f2 81, f2 82, f2 83, f2 84, f2 85, f2 86, f2 87, f2 88, f2 89, f2 90, f2 91, f2 92, f2 93, f2 94, f2 95, f2 96, f2 97, f2 98, f2 99, f2 100, f2 101, f2 102]) ?rest15 ?reg15
                  case reg15 =>
                    go_region_held3 (fun W2 => Below W.heap.size W1 W2 ∧ W2.cell? ⟨w.heap.size, 3, none⟩ = some (.int .i64 a3) ∧ W2.cell? ⟨w.heap.size, 4, none⟩ = some (.int .i64 a4) ∧ W2.cell? ⟨w.heap.size + 1, 3, none⟩ = some (.int .i64 b3) ∧ W2.cell? ⟨w.heap.size + 1, 4, none⟩ = some (.int .i64 b4))
                      ((refine HS2.out _ ?_; first | (simp only [bd0]; done) | (simp only [fun i u => bd1 (W := W1) LE.out i u]; done) | (simp only [fun i j u v => bd2 (W := W1) LE.out i j u v]; done) | (trace_state; fail)))
                      (fail)
                    all_goals refine ⟨rfl, ?_, ?_, ?_, rfl, frame_ex _ (by rfl)⟩
                    all_goals first | (with_reducible exact bd2 LE.out _ _ _ _) | (with_reducible exact put34 H14.out _ _) | (with_reducible exact put43 H14.out _ _) | (with_reducible exact R_set2 R14.out _ _) | (trace_state; fail)
                  case rest15 =>
                    rintro _ ⟨tm3, df3⟩ W2 ⟨rfl, hb2, h15, hR2, hdf3, f2, htm3⟩
                    dsimp only at hdf3 htm3
                    subst hdf3 htm3
                    have JX := Aside0.mk (JW.out.next2 hb2 LT6.out)
                    have MX : Aside0 (Marks w.heap.size rs W2) := ⟨⟨MW.out.nodup, MW.out.ge, fun r hr => (hb2.block _ (MK14.out r hr)).trans (MW.out.has r hr)⟩⟩
                    have R15 := Aside0.mk hR2
                    have H15 := Aside0.mk h15
                    have p0 : W2.cell? ⟨b14, 0, none⟩ = some (.int .i64 pr) := (blk_cell H15.out 0).trans rfl
                    have p1 : W2.cell? ⟨b14, 1, none⟩ = some (.int .i64 (wrap64 (a1 + b1))) := (blk_cell H15.out 1).trans rfl
                    have p2 : W2.cell? ⟨b14, 2, none⟩ = some (.int .i64 (wrap64 (a2 + b2))) := (blk_cell H15.out 2).trans rfl
                    have p3 : W2.cell? ⟨b14, 3, none⟩ = some (.int .i64 (min a3 b3)) := (blk_cell H15.out 3).trans rfl
                    have p4 : W2.cell? ⟨b14, 4, none⟩ = some (.int .i64 (max a4 b4)) := (blk_cell H15.out 4).trans rfl
                    have p5 : W2.cell? ⟨b14, 5, none⟩ = some (.slice A9 r6.length c9) := (blk_cell H15.out 5).trans rfl
                    have q0 : W2.cell? ⟨w.heap.size + 1 + 1 + 1, 0, none⟩ = some (.int .i64 0) := (blk_cell JX.out.k6 0).trans rfl
                    have u0 := blk_frozen JX.out.k6 0
                    have q1 : W2.cell? ⟨w.heap.size + 1 + 1 + 1, 1, none⟩ = some (.int .i64 0) := (blk_cell JX.out.k6 1).trans rfl
                    have u1 := blk_frozen JX.out.k6 1
                    have q2 : W2.cell? ⟨w.heap.size + 1 + 1 + 1, 2, none⟩ = some (.int .i64 0) := (blk_cell JX.out.k6 2).trans rfl
                    have u2 := blk_frozen JX.out.k6 2
                    have q3 : W2.cell? ⟨w.heap.size + 1 + 1 + 1, 3, none⟩ = some (.int .i64 0) := (blk_cell JX.out.k6 3).trans rfl
                    have u3 := blk_frozen JX.out.k6 3
                    have q4 : W2.cell? ⟨w.heap.size + 1 + 1 + 1, 4, none⟩ = some (.int .i64 0) := (blk_cell JX.out.k6 4).trans rfl
                    have u4 := blk_frozen JX.out.k6 4
                    have q5 : W2.cell? ⟨w.heap.size + 1 + 1 + 1, 5, none⟩ = some (.slice none 0 0) := (blk_cell JX.out.k6 5).trans rfl
                    have u5 := blk_frozen JX.out.k6 5
                    clear hb2 h15 hR2
                    gi_wp2
                    refine ret_hist (b := w.heap.size + 1 + 1 + 1) (rs := rs) (v5 := .slice A9 r6.length c9) rfl ?e1 ?e2 ?e3 (by rfl) (by rfl) (by rfl) ?e4 (Nat.le_refl _)
                    case e1 => with_reducible exact put6 JX.out.k6 _ _ _ _ _ _
                    case e2 => with_reducible exact R_hist R15.out JX.out.k6 _ _ _ _ _ _
                    case e3 => with_reducible exact below6 JX.out.below (by omega) _ _ _ _ _ _
                    case e4 => with_reducible exact marks6 MX.out _ _ _ _ _ _
    · rw [if_neg g2] at h; cases h
end Go.Proofs.Ytclgfbhkmhhenaa.Hand
