/- What a function leaves with that ranges over functions in a loop: a mark for each. No condition beyond those in the statements. -/
import Derived.Test.YtclgfbhkmhhenaaSeq
namespace Go.Proofs.Ytclgfbhkmhhenaa.Seq
open Go Go.RowKit
def mkD (r : Nat) : Deferred := { target := .collected r, args := #[] }
structure Marks (B : Nat) (rs : List Nat) (w : World) : Prop where
  nodup : rs.Nodup
  ge : ∀ r ∈ rs, B ≤ r
  has : ∀ r ∈ rs, w.heap[r]? = some (.deferred (some []))
theorem Marks.none (B : Nat) (w : World) : Marks B [] w := ⟨List.nodup_nil, fun r h => (by cases h), fun r h => (by cases h)⟩
theorem Marks.lt {B : Nat} {rs : List Nat} {w : World} (h : Marks B rs w) {r : Nat} (hr : r ∈ rs) : r < w.heap.size := (Array.getElem?_eq_some_iff.1 (h.has r hr)).1
theorem Marks.cons {B : Nat} {rs : List Nat} {w : World} (h : Marks B rs w) {D : Nat} (hn : ∀ r ∈ rs, r < D) (hB : B ≤ D) (hD : w.heap[D]? = some (.deferred (some []))) : Marks B (D :: rs) w :=
  ⟨List.nodup_cons.2 ⟨fun hm => Nat.lt_irrefl _ (hn D hm), h.nodup⟩, fun r hr => (List.mem_cons.1 hr).elim (fun e => by rw [e]; exact hB) (h.ge r), fun r hr => (List.mem_cons.1 hr).elim (fun e => by rw [e]; exact hD) (h.has r)⟩
theorem Marks.keeps {B : Nat} {rs : List Nat} {w w' : World} (h : Marks B rs w) (hk : KeepsFrom B w w') : Marks B rs w' := ⟨h.nodup, h.ge, fun r hr => hk.same r _ (h.ge r hr) (h.has r hr) rfl⟩
theorem Marks.grown {B Bnd : Nat} {rs : List Nat} {X Y : World} {row : Option Nat} (h : Marks B rs X) (hg : X.grownBy Y row) (hr : ∀ r, row = some r → Bnd ≤ r ∧ ∃ o : Obj, X.heap[r]? = some o ∧ o.isCells = false) (hB : ∀ r ∈ rs, r < Bnd) : Marks B rs Y :=
  ⟨h.nodup, h.ge, fun r hm => (hg.block r (h.lt hm) (fun e => by have := (hr r e.symm).1; have := hB r hm; omega)).trans (h.has r hm)⟩
theorem leaves_marks {F : Fence} {n : Nat} {P : Program} {fn : Func} {tmps : Array Value} {R : Ending → World → Prop} {B : Nat} : ∀ (rs : List Nat) (w : World), Marks B rs w →
    (∀ W', (∀ (k : Nat) (o : Obj), w.heap[k]? = some o → o.isCells = true → W'.heap[k]? = some o) → (∀ (w0 : World) (n0 : Nat), n0 ≤ B → n0 ≤ w0.heap.size → Below n0 w0 w → Below n0 w0 W') → LeavesIn F n P fn tmps R [] .returning W') →
    LeavesInM F n P fn tmps R (rs.map mkD) .returning w
  | [], w, _, hf => hf w (fun _ _ h _ => h) (fun _ _ _ _ h => h)
  | r :: rs, w, h, hf => by
    have hr := h.has r (by simp)
    have hlt := h.lt (r := r) (by simp)
    have hnd := List.nodup_cons.1 h.nodup
    refine ⟨by simp, .inl ⟨r, w.putObj r (.deferred none), rfl, run_takeDeferred hr, ?_⟩⟩
    refine leaves_marks rs _ ⟨hnd.2, fun q hq => h.ge q (by simp [hq]), fun q hq => ?_⟩ (fun W' h1 h2 => ?_)
    · have hne : q ≠ r := fun e => hnd.1 (e ▸ hq)
      exact (World.putObj_heap_other hne).trans (h.has q (by simp [hq]))
    · refine hf W' (fun k o hk ho => h1 k o ?_ ho) (fun w0 n0 hn hs hb => h2 w0 n0 hn hs ?_)
      · have hne : k ≠ r := fun e => by subst e; rw [hr] at hk; cases hk; cases ho
        exact (World.putObj_heap_other hne).trans hk
      · exact hb.grown (grownBy_putObj' w r (.deferred none)) (Nat.le_trans hs hb.size) (fun k e => by cases e; exact Nat.le_trans hn (h.ge r (by simp)))
end Go.Proofs.Ytclgfbhkmhhenaa.Seq
