/- Arguments of any kind opened: what a law's argument reads as, type by type. No condition. -/
import Derived.Test.YtclgfbhkmhhenaaWMore
import Derived.Deep.Slices
import Derived.SizedLaws
import Derived.ChangeArms
import Derived.WideShapes
import Derived.OpenShut
import Derived.Carry
namespace Go.Proofs.Ytclgfbhkmhhenaa.Opens
open Go.RowKit Go.ChangeShapes Go.WideShapes Go.Deep Go.Proofs.YtclgfbhkmhhenaaW.PrintWords
def Opens (P : Program) (t : TypeId) {α : Type} (d : Kd α) (wt : α → Prop) : Prop :=
  ∀ (H : Type) (enc : TypeId × Value → H) (W : World) (fuel : Nat) (cs : List Value) (y : DataW H) (ps : List MemPlace),
    DataW.trod enc P W 0 (fun _ => true) true fuel t cs = some (y, ps) → (∀ q ∈ y.weights P t, q ≤ reachBytes) → ∃ x, d.K W x cs ∧ wt x
section
variable {P : Program} {t : TypeId}
theorem opens_int {k : IntKind} (hu : P.underlying t = some (.int k)) : Opens P t (Kd.int k) (fun n => (Lit.int k n).wf = true) := by
  intro H enc W fuel cs y ps h _
  obtain ⟨n, rfl, _, hw⟩ := DataW.trod_int hu h
  exact ⟨n, rfl, hw⟩
theorem opens_bool (hu : P.underlying t = some .bool) : Opens P t Kd.bool (fun _ => True) := by
  intro H enc W fuel cs y ps h _
  obtain ⟨b, rfl, _⟩ := DataW.trod_bool hu h
  exact ⟨b, rfl, trivial⟩
theorem opens_string (hu : P.underlying t = some .string) : Opens P t Kd.string (fun s => s.size ≤ 140737488351232) := by
  intro H enc W fuel cs y ps h hw
  obtain ⟨s, rfl, hx, _⟩ := DataW.trod_string hu h
  injection hx with hy _
  subst hy
  have z := hw s.data.toList.length (by simp [DataW.weights])
  rw [Array.length_toList] at z
  exact ⟨s, rfl, z⟩
theorem opens_iso {α β : Type} {d : Kd α} {f : β → α} {g : α → β} {wt : α → Prop} (hg : ∀ y, f (g y) = y) (h : Opens P t d wt) : Opens P t (Kd.iso d f) (fun x => wt (f x)) := by
  intro H enc W fuel cs y ps hf hw
  obtain ⟨x, hK, hx⟩ := h H enc W fuel cs y ps hf hw
  exact ⟨g x, show d.K W (f (g x)) cs by rw [hg]; exact hK, show wt (f (g x)) by rw [hg]; exact hx⟩
theorem weightsAll_mem {H : Type} {e : TypeId} {d : DataW H} {q : Nat} : ∀ {l : List (DataW H)}, d ∈ l → q ∈ d.weights P e → q ∈ DataW.weightsAll P e l
  | x :: r, hd, hq => by
    simp only [DataW.weightsAll, List.mem_append]
    rcases List.mem_cons.1 hd with rfl | hd
    · exact .inl hq
    · exact .inr (weightsAll_mem hd hq)
theorem opens_slice {e : TypeId} {α : Type} {d : Kd α} {wt : α → Prop} {B : Nat} (hu : P.underlying t = some (.slice e)) (he : Opens P e d wt) (hsz : P.cellsOf e = d.sz) (hB : P.bytesOf e = B) :
    Opens P t (Kd.slice e d) (fun xs => xs.length ≤ maxLen ∧ xs.length * B ≤ 140737488351232 ∧ ∀ x ∈ xs, wt x) := by
  intro H enc W fuel cs y ps h hw
  rcases open_slice hu h with ⟨rfl, _⟩ | ⟨a, len, cap, m, n, D, Pl, rfl, _, hl, hm, hmm, hx, hel⟩
  · exact ⟨[], ⟨none, 0, rfl, Nat.le_refl _, Kd.C_nil d W⟩, Nat.zero_le _, by simp, fun x hx => by cases hx⟩
  · simp only [if_true] at hmm
    subst hmm
    injection hx with hy _
    subst hy
    have hw1 := hw ((len + (m - len)) * P.bytesOf e) (by simp [DataW.weights, hu])
    have key : ∀ i, i < len → ∃ x, wt x ∧ ∃ c, c.length = d.sz ∧ d.K W x c ∧ ∀ j u, c[j]? = some u → W.cell? (a.add (i * d.sz + j)) = some u := by
      intro i hi
      obtain ⟨c, hc, ht⟩ := hel i (by omega)
      obtain ⟨x, hK, hwx⟩ := he H enc W n c (D i) (Pl i) ht (fun q hq => hw q (by
        simp only [DataW.weights, hu, List.mem_cons, List.mem_append]
        exact .inr (.inl (weightsAll_mem (List.mem_map.2 ⟨i, by simpa using hi, rfl⟩) hq))))
      obtain ⟨_, hcl, hcell⟩ := World.cells?_some hc
      refine ⟨x, hwx, c, by rw [hcl, hsz], hK, fun j u hj => ?_⟩
      have hjl : j < P.cellsOf e := by rw [← hcl]; exact (List.getElem?_eq_some_iff.1 hj).1
      have := hcell j hjl
      rw [Go.Deep.add_add, hsz] at this
      rw [this]
      exact hj
    obtain ⟨xs, hxl, hxs⟩ : ∃ xs : List α, xs.length = len ∧ ∀ i x, xs[i]? = some x → wt x ∧ ∃ c, c.length = d.sz ∧ d.K W x c ∧ ∀ j u, c[j]? = some u → W.cell? (a.add (i * d.sz + j)) = some u := by
      clear hw hw1 hel
      have : ∀ k, k ≤ len → ∃ xs : List α, xs.length = k ∧ ∀ i x, xs[i]? = some x → wt x ∧ ∃ c, c.length = d.sz ∧ d.K W x c ∧ ∀ j u, c[j]? = some u → W.cell? (a.add (i * d.sz + j)) = some u := by
        intro k
        induction k with
        | zero => exact fun _ => ⟨[], rfl, fun i x h => by simp at h⟩
        | succ k ih =>
          intro hk
          obtain ⟨xs, h1, h2⟩ := ih (by omega)
          obtain ⟨x, hx⟩ := key k (by omega)
          refine ⟨xs ++ [x], by simp [h1], fun i y hy => ?_⟩
          rcases Nat.lt_or_ge i xs.length with hi | hi
          · rw [List.getElem?_append_left hi] at hy
            exact h2 i y hy
          · have : i = xs.length := by
              have := (List.getElem?_eq_some_iff.1 hy).1
              rw [List.length_append, List.length_singleton] at this
              omega
            subst this
            rw [List.getElem?_concat_length] at hy
            injection hy with hy
            subst hy
            rw [h1]
            exact hx
      exact this len (Nat.le_refl _)
    refine ⟨xs, ⟨some a, m, by rw [hxl], by omega, rfl, by rw [hxl]; unfold maxLen at hm; omega, fun _ => ⟨a, rfl, fun j p hj => (hxs j p hj).2⟩⟩, by omega, ?_, fun x hx => ?_⟩
    · rw [← hB, hxl]
      refine Nat.le_trans (Nat.mul_le_mul_right _ (by omega)) hw1
    · obtain ⟨i, hi⟩ := List.getElem?_of_mem hx
      exact (hxs i x hi).1
/-- A struct's fields from one place on. -/
def OpensFs (P : Program) (fs : List Field) (off : Nat) {α : Type} (d : Kd α) (wt : α → Prop) : Prop :=
  ∀ (H : Type) (enc : TypeId × Value → H) (W : World) (n : Nat) (cs : List Value) (ys : List (DataW H × List MemPlace)), ys.length = fs.length →
    (∀ (i : Nat) (f : Field), fs[i]? = some f → DataW.trod enc P W 0 (fun _ => true) true n f.type ((cs.drop f.offset).take (P.cellsOf f.type)) = ys[i]?) →
    (∀ q ∈ DataW.weightsEach P (fs.map (·.type)) (ys.map (·.1)), q ≤ reachBytes) → ∃ x, d.K W x ((cs.drop off).take d.sz) ∧ wt x
theorem opensFs_one {f : Field} {off : Nat} {α : Type} {d : Kd α} {wt : α → Prop} (ho : f.offset = off) (hs : P.cellsOf f.type = d.sz) (h : Opens P f.type d wt) : OpensFs P [f] off d wt := by
  intro H enc W n cs ys hl hy hw
  match ys, hl with
  | [y], _ =>
    have h0 := hy 0 f rfl
    rw [ho, hs] at h0
    exact h H enc W n _ y.1 y.2 h0 (fun q hq => hw q (by simp [DataW.weightsEach, hq]))
theorem opensFs_cons {f : Field} {fs : List Field} {off : Nat} {α β : Type} {d : Kd α} {d' : Kd β} {wt : α → Prop} {wt' : β → Prop} (ho : f.offset = off) (hs : P.cellsOf f.type = d.sz) (h : Opens P f.type d wt) (h' : OpensFs P fs (off + d.sz) d' wt') :
    OpensFs P (f :: fs) off (Kd.pair d d') (fun x => wt x.1 ∧ wt' x.2) := by
  intro H enc W n cs ys hl hy hw
  match ys, hl with
  | y :: ys, hl =>
    have h0 := hy 0 f rfl
    rw [ho, hs] at h0
    obtain ⟨x, hx, wx⟩ := h H enc W n _ y.1 y.2 h0 (fun q hq => hw q (by simp [DataW.weightsEach, hq]))
    obtain ⟨z, hz, wz⟩ := h' H enc W n cs ys (by simpa using hl) (fun i g hg => by simpa using hy (i + 1) g (by simpa using hg)) (fun q hq => hw q (by simp only [List.map_cons, DataW.weightsEach, List.mem_append]; exact .inr hq))
    refine ⟨(x, z), ⟨_, _, ?_, hx, hz⟩, wx, wz⟩
    show (cs.drop off).take (d.sz + d'.sz) = _
    rw [List.take_add, List.drop_drop]
theorem opens_struct {fs : List Field} {α : Type} {d : Kd α} {wt : α → Prop} (hu : P.underlying t = some (.struct fs.toArray)) (hs : P.cellsOf t = d.sz) (h : OpensFs P fs 0 d wt) : Opens P t d wt := by
  intro H enc W fuel cs y ps hf hw
  obtain ⟨xs, n, _, hx, hl, hlen, hg⟩ := DataW.trod_struct hu hf
  injection hx with hy _
  subst hy
  obtain ⟨x, hK, wx⟩ := h H enc W n cs xs (by simpa using hlen) (fun i f hi => hg i f (by simpa using hi)) (fun q hq => hw q (by simp only [DataW.weights, hu]; simpa using hq))
  rw [List.drop_zero, ← hs, ← hl, List.take_length] at hK
  exact ⟨x, hK, wx⟩
theorem weightsEach_all {H : Type} {e : TypeId} : ∀ {ts : List TypeId} {l : List (DataW H)} {q : Nat}, (∀ x ∈ ts, x = e) → q ∈ DataW.weightsEach P ts l → q ∈ DataW.weightsAll P e l
  | [], _, q, _, h => by simp [DataW.weightsEach] at h
  | _ :: _, [], q, _, h => by simp [DataW.weightsEach] at h
  | x :: ts, d :: l, q, he, h => by
    obtain rfl := he x (by simp)
    simp only [DataW.weightsEach, DataW.weightsAll, List.mem_append] at h ⊢
    rcases h with h | h
    · exact .inl h
    · exact .inr (weightsEach_all (fun y hy => he y (by simp [hy])) h)
/-- The fields that an array's elements are read as. -/
def arFs (e : TypeId) : Nat → Nat → List Field
  | _, 0 => []
  | i, n + 1 => { name := "", type := e, offset := i, embedded := false, tag := "", pkgPath := "", byteOffset := 0 } :: arFs e (i + 1) n
theorem arFs_get {e : TypeId} : ∀ (n i j : Nat) (f : Field), (arFs e i n)[j]? = some f → f.type = e ∧ f.offset = i + j ∧ j < n
  | 0, i, j, f, h => by simp [arFs] at h
  | n + 1, i, 0, f, h => by simp [arFs] at h; subst h; exact ⟨rfl, rfl, by omega⟩
  | n + 1, i, j + 1, f, h => by
    simp only [arFs, List.getElem?_cons_succ] at h
    obtain ⟨h1, h2, h3⟩ := arFs_get n (i + 1) j f h
    exact ⟨h1, by omega, by omega⟩
theorem arFs_length {e : TypeId} : ∀ (n i : Nat), (arFs e i n).length = n
  | 0, _ => rfl
  | n + 1, i => by simp [arFs, arFs_length n (i + 1)]
theorem arFs_types {e : TypeId} : ∀ (n i : Nat), ∀ x ∈ (arFs e i n).map (·.type), x = e
  | 0, _, x, h => by simp [arFs] at h
  | n + 1, i, x, h => by
    simp only [arFs, List.map_cons, List.mem_cons] at h
    rcases h with h | h
    · exact h
    · exact arFs_types n (i + 1) x h
theorem opens_array {n : Nat} {e : TypeId} {α : Type} {d : Kd α} {wt : α → Prop} (hu : P.underlying t = some (.array n e)) (he : P.cellsOf e = 1) (hs : P.cellsOf t = d.sz) (h : OpensFs P (arFs e 0 n) 0 d wt) : Opens P t d wt := by
  intro H enc W fuel cs y ps hf hw
  obtain ⟨xs, m, _, hx, hl, hlen, hg⟩ := DataW.trod_array hu hf
  injection hx with hy _
  subst hy
  obtain ⟨x, hK, wx⟩ := h H enc W m cs xs (by rw [hlen, arFs_length]) (fun i f hi => by
    obtain ⟨h1, h2, h3⟩ := arFs_get n 0 i f hi
    have := hg i h3
    rw [h1, h2, Nat.zero_add, he]
    rw [he, Nat.mul_one] at this
    exact this) (fun q hq => hw q (by simp only [DataW.weights, hu]; exact weightsEach_all (arFs_types n 0) hq))
  rw [List.drop_zero, ← hs, ← hl, List.take_length] at hK
  exact ⟨x, hK, wx⟩
theorem arr_of {cs : Array Value} {l : List Value} (h : cs.toList = l) : cs = l.toArray := by rw [← h]
/-- An argument's reading, from the row. -/
theorem opened {H : Type} {enc : TypeId × Value → H} {W : World} {α : Type} {d : Kd α} {wt : α → Prop} {ts : List TypeId} {ds : List (DataW H)} {j : Nat} {v : Value} {y : DataW H} {ps : List MemPlace}
    (h : Opens P t d wt) (hf : DataW.Trod enc P W 0 (fun _ => true) true t v y ps) (hsz : (DataW.weightsEach P ts ds).all (· ≤ reachBytes) = true) (ht : ts[j]? = some t) (hd : ds[j]? = some y) : ∃ x, d.K W x v.cells.toList ∧ wt x := by
  obtain ⟨fuel, hf⟩ := hf
  exact h H enc W fuel _ y ps hf (fun q hq => by simpa using List.all_eq_true.1 hsz _ (DataW.weights_mem_each ht hd q hq))
theorem slice_at {e : TypeId} {α : Type} {d : Kd α} {W : World} {A : Option Addr} {n c : Nat} {xs : List α} (h : (Kd.slice e d).K W xs (Value.slice A n c).cells.toList) : n = xs.length ∧ xs.length ≤ c ∧ d.C W A xs.length xs := by
  obtain ⟨A', c', he, hl, hC⟩ := h
  simp only [Value.cells, List.cons.injEq, Value.slice.injEq, and_true] at he
  obtain ⟨rfl, rfl, rfl⟩ := he
  exact ⟨rfl, hl, hC⟩
end
end Go.Proofs.Ytclgfbhkmhhenaa.Opens
