/- Small laws for loops over a function value: an append to a row of the call's own inside a round, and what boxes and rows keep beside it. No condition beyond those in the statements. -/
import Derived.Test.YtclgfbhkmhhenaaSeq
import Derived.Test.YtclgfbhkmhhenaaWMore
import Derived.RangeFuncBox
import Derived.OwnWalkIn
import Derived.Maps.OwnIn
import Derived.TacticsInMore
namespace Go.Proofs.Ytclgfbhkmhhenaa.Seq
open Go Go.RowKit Go.Proofs.YtclgfbhkmhhenaaW.PrintWords Go.Proofs.YtclgfbhkmhhenaaW.PrintMore
section
variable {α : Type} {d : Kd α} {e base : Nat} {ok : Nat → Prop} {v : Value} {xs : List α}
theorem blk_kept' {Bnd b : Nat} {X Y : World} {row : Option Nat} {cs : Array Value} {t : TypeId} {fr : Nat × Nat} (h : X.heap[b]? = some (.cells cs t fr)) (hg : X.grownBy Y row) (hr : ∀ r, row = some r → Bnd ≤ r ∧ ∃ o : Obj, X.heap[r]? = some o ∧ o.isCells = false) : Y.heap[b]? = some (.cells cs t fr) :=
  (hg.block b (Array.getElem?_eq_some_iff.1 h).1 (fun e => by
    obtain ⟨_, o, ho, hc⟩ := hr b e.symm
    rw [h] at ho
    cases ho; cases hc)).trans h
theorem R_kept' {Bnd : Nat} {X Y : World} {row : Option Nat} (h : Kd.R d e X base ok v xs) (hg : X.grownBy Y row) (hr : ∀ r, row = some r → Bnd ≤ r ∧ ∃ o : Obj, X.heap[r]? = some o ∧ o.isCells = false) : Kd.R d e Y base ok v xs :=
  Kd.R_mono (Kd.R_grown (Kd.R_bound h) hg (fun k hk he => by
    obtain ⟨_, _, _, q, _, cells, hc⟩ := hk
    obtain ⟨_, o, ho, hn⟩ := hr k he.symm
    rw [hc] at ho
    cases ho; cases hn)) (fun k hk => hk.1)
theorem V_kept' {Bnd : Nat} {X Y : World} {row : Option Nat} (h : Kd.V d e X base ok v xs) (hg : X.grownBy Y row) (hr : ∀ r, row = some r → Bnd ≤ r ∧ ∃ o : Obj, X.heap[r]? = some o ∧ o.isCells = false) (hok : ∀ k, ok k → k < Bnd) : Kd.V d e Y base ok v xs :=
  Kd.V_grown h hg (fun k hk he => by have := (hr k he.symm).1; have := hok k hk; omega)
theorem R_boxed {W w1 : World} {B t : Nat} {tmp : Obj} {v1 : Value} {ys : List α} (hv : Boxed W B t v) (hte : t ≠ e) (htE : ∀ q, q ∈ e :: d.E → q ≠ t) (hR : Kd.R d e W base ok v xs) (hn : base ≤ W.heap.size) (hB : base ≤ B)
    (hR1 : Kd.R d e w1 base ok v1 ys) (hgrow : (W.alloc tmp).grownBy w1 v.ownBlock) :
    Boxed w1 B t v ∧ Boxed (w1.setCell ⟨B, 0, none⟩ v1) B t v1 ∧ Kd.R d e (w1.setCell ⟨B, 0, none⟩ v1) base ok v1 ys ∧ KeepsOthers W (w1.setCell ⟨B, 0, none⟩ v1) ∧ Below base W (w1.setCell ⟨B, 0, none⟩ v1) := by
  obtain ⟨i0, hrow⟩ := Kd.R_own hR
  obtain ⟨i1, hrow1⟩ := Kd.R_own hR1
  obtain ⟨a1, a2, a3, a4, a5⟩ := hv.appended hte hrow hn hB hrow1 hgrow
  exact ⟨a1, a2, Kd.R_set hR1 a1 htE 0 v1, a4, a5⟩
variable {F : Fence} {nF : Nat} {P : Program}
theorem R_append_in (d : Kd α) {W : World} {ops : Array Oper} {rest : List Oper} {o : Oper} {a : Act} {Q : Exit → Act → World → Prop} (base : Nat) (hgd : o.guard = none) (s x : Operand) (t e : TypeId) (z : Value) (bytes : Nat)
    (ho : o.op = .call { callee := .builtin .append, args := #[s, x], argTypes := #[t, t] })
    (ht : P.underlying t = some (.slice e)) (hinfo : (P.info? e).map (fun i => (i.zero, i.size, i.bytes)) = some (some z, d.sz, bytes)) (hz : z.cells.size = d.sz) (hs0 : 0 < d.sz) (hb0 : 0 < bytes)
    (v : Value) (xs : List α) (p : α) (cs : List Value) (ok okp : Nat → Prop) (hs : a.eval s = v) (hx : a.eval x = .slice (some ⟨W.heap.size, 0, none⟩) 1 1) (hp : d.M W base okp p cs) (hokp : ∀ k, okp k → ok k ∧ some k ≠ v.ownBlock) (hfresh : ∀ k, W.heap.size ≤ k → ok k)
    (HO : Kd.R d e W base ok v xs) (hbase : base ≤ W.heap.size) (hl : (xs.length + 1) * bytes ≤ 140737488355328)
    (h : ∀ v1 w1, Kd.R d e w1 base ok v1 (xs ++ [p]) → (W.alloc (.cells cs.toArray e)).grownBy w1 v.ownBlock → wpListIn F nF P ops Q rest (a.put o.dst v1) w1) :
    wpListIn F nF P ops Q (o :: rest) a (W.alloc (.cells cs.toArray e)) := by
  obtain ⟨i0, hi, hzz⟩ := Option.map_eq_some_iff.1 hinfo
  simp only [Prod.mk.injEq] at hzz
  obtain ⟨hz0, hz1, hz2⟩ := hzz
  have hlen : xs.length + 1 ≤ 140737488355328 := Nat.le_trans (Nat.le_mul_of_pos_right _ hb0) hl
  have hcl := d.K_len (d.K_of_M hp)
  have hc1 := d.K_one (d.K_of_M hp)
  have HA := Kd.R_alloc HO (.cells cs.toArray e)
  obtain ⟨hok, inner, hown, hr⟩ := HA
  have hcell : ∀ j u, cs[j]? = some u → (W.alloc (.cells cs.toArray e)).cell? ((⟨W.heap.size, 0, none⟩ : Addr).add j) = some u := fun j u hu => by
    have := World.alloc_heap_new W (.cells cs.toArray e)
    rw [show (⟨W.heap.size, 0, none⟩ : Addr).add j = ⟨W.heap.size, j, none⟩ from by simp [Addr.add, eq_comm], blk_cell this j]
    simpa using hu
  refine wpListIn_append_own_at _ hgd s x t ho base e i0 z d.sz bytes ht hi hz0 hz1 hz2 hz hs0 v xs.length inner hs hown ⟨W.heap.size, 0, none⟩ 1 1 cs hx (by rw [hcl]; omega) hcell hc1 (by unfold maxLen; omega) hl (by simp; omega) ?_
  intro v1 w1 hown1 hg1 _ hat1
  refine h v1 w1 (Kd.R_appended hok hr (d.M_mono (fun k hk => hk.1) (d.M_move (w1 := W.alloc (.cells cs.toArray e)) (fun k hk => Below.heap_alloc _ _ _ hk.2.2.1) (d.M_bound hp))) hokp (fun k hk => hfresh k (by simp at hk; omega)) hown1 hg1 (hat1.imp id fun e => ⟨_, e, Nat.le_refl _⟩)) hg1
end
end Go.Proofs.Ytclgfbhkmhhenaa.Seq
