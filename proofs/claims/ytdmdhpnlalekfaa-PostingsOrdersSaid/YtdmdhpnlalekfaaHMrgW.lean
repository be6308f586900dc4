/- The contract of postings.Merge: what the Go code returns for any lists. No further condition. -/
import Derived.Test.YtdmdhpnlalekfaaHChunk
import Derived.Test.YtdmdhpnlalekfaaMarks
import Derived.Test.YtdmdhpnlalekfaaCloneInt
import Derived.Test.YtdmdhpnlalekfaaHGreat
import Derived.OrdersHeld
import Derived.Deep.RegionHeld3
import Derived.Test.YtdmdhpnlalekfaaAx
namespace Go.Proofs.Ytdmdhpnlalekfaa.Hand
open Go.RowKit Go.Shelf Go.Proofs.YtdmdhpnlalekfaaW.PrintWords Go.Proofs.YtdmdhpnlalekfaaW.PrintMore Go.Proofs.Ytdmdhpnlalekfaa.Seq Go.Proofs.Ytdmdhpnlalekfaa.A
attribute [local go_sem] Oper.semAt_some
set_option linter.unusedVariables false
set_option linter.unusedSimpArgs false
/-- Two lists in one: each number of either, once. -/
def orL (a b : List Int) : List Int := combG gOr (walkL a b)
def tot : List (List Int) → Nat
  | [] => 0
  | x :: r => x.length + tot r
/-- The lists merged by twos. -/
def hvL : List (List Int) → List (List Int)
  | [] => []
  | [x] => [x]
  | x :: y :: r => orL x y :: hvL r
def mgF : Nat → List (List Int) → List Int
  | 0, l => l.headD []
  | d + 1, l => if 1 < l.length then mgF d (hvL l) else l.headD []
def mgL (l : List (List Int)) : List Int := mgF l.length l
theorem orL_len (a b : List Int) : (orL a b).length ≤ a.length + b.length := by
  have h1 := combG_len gOr (walkL a b) (walkL a b).length
  rw [List.take_length] at h1
  exact Nat.le_trans h1 (walkL_len a b)
theorem hvL_len : ∀ l : List (List Int), (hvL l).length = chunk.pcount l.length
  | [] => by simp [hvL, chunk.pcount]
  | [x] => by simp [hvL, chunk.pcount]
  | x :: y :: r => by
    rw [hvL, List.length_cons, hvL_len r]
    unfold chunk.pcount
    simp only [List.length_cons]; omega
theorem hvL_tot : ∀ l : List (List Int), tot (hvL l) ≤ tot l
  | [] => Nat.le_refl _
  | [x] => Nat.le_refl _
  | x :: y :: r => by
    have h1 := orL_len x y
    have h2 := hvL_tot r
    simp only [hvL, tot]; omega
theorem hvL_at : ∀ (l : List (List Int)) (k : Nat), k < chunk.pcount l.length → (hvL l).getD k [] = (if 2 * k + 1 < l.length then orL (l.getD (2 * k) []) (l.getD (2 * k + 1) []) else l.getD (2 * k) [])
  | [], k, h => by simp [chunk.pcount] at h
  | [x], k, h => by
    obtain rfl : k = 0 := by simp [chunk.pcount] at h; omega
    rfl
  | x :: y :: r, 0, h => by simp [hvL]
  | x :: y :: r, k + 1, h => by
    have ih := hvL_at r k (by unfold chunk.pcount at h ⊢; simp only [List.length_cons] at h; omega)
    have e1 : 2 * (k + 1) = 2 * k + 1 + 1 := by omega
    rw [hvL, List.getD_cons_succ, ih, e1]
    simp only [List.getD_cons_succ, List.length_cons]
    by_cases hc : 2 * k + 1 < r.length
    · rw [if_pos hc, if_pos (by omega)]
    · rw [if_neg hc, if_neg (by omega)]
theorem tot_ge {l : List (List Int)} {k : Nat} (h : k < l.length) : (l.getD k []).length ≤ tot l := by
  induction l generalizing k with
  | nil => simp at h
  | cons x r ih =>
    cases k with
    | zero => simp [tot]
    | succ k =>
      have := ih (k := k) (by simp at h; omega)
      simp only [List.getD_cons_succ, tot]; omega
theorem tot_ge2 {l : List (List Int)} {k : Nat} (h : k + 1 < l.length) : (l.getD k []).length + (l.getD (k + 1) []).length ≤ tot l := by
  induction l generalizing k with
  | nil => simp at h
  | cons x r ih =>
    cases k with
    | zero =>
      have := tot_ge (l := r) (k := 0) (by simp at h; omega)
      simp only [List.getD_cons_succ, List.getD_cons_zero, tot]; omega
    | succ k =>
      have := ih (k := k) (by simp at h; omega)
      simp only [List.getD_cons_succ, tot]; omega
theorem mgF_small : ∀ (d : Nat) (l : List (List Int)), l.length ≤ 1 → mgF d l = l.headD []
  | 0, l, _ => rfl
  | d + 1, l, h => by rw [mgF, if_neg (by omega)]
theorem mgF_more : ∀ (d : Nat) (l : List (List Int)), l.length ≤ d → mgF (d + 1) l = mgF d l
  | 0, l, h => by rw [mgF_small _ _ (by omega), mgF_small _ _ (by omega)]
  | d + 1, l, h => by
    rw [show mgF (d + 1 + 1) l = (if 1 < l.length then mgF (d + 1) (hvL l) else l.headD []) from rfl, show mgF (d + 1) l = (if 1 < l.length then mgF d (hvL l) else l.headD []) from rfl]
    by_cases hc : 1 < l.length
    · rw [if_pos hc, if_pos hc]
      exact mgF_more d _ (by rw [hvL_len]; unfold chunk.pcount; omega)
    · rw [if_neg hc, if_neg hc]
theorem mgF_le : ∀ (e d : Nat) (l : List (List Int)), l.length ≤ d → mgF (d + e) l = mgF d l
  | 0, _, _, _ => rfl
  | e + 1, d, l, h => by rw [← Nat.add_assoc, mgF_more _ _ (by omega), mgF_le e d l h]
theorem mgL_step {l : List (List Int)} (h : 1 < l.length) : mgL l = mgL (hvL l) := by
  unfold mgL
  obtain ⟨d, hd⟩ : ∃ d, l.length = d + 1 := ⟨l.length - 1, by omega⟩
  have h2 : (hvL l).length ≤ d := by rw [hvL_len]; unfold chunk.pcount; omega
  rw [hd, mgF, if_pos h]
  obtain ⟨e, he⟩ : ∃ e, d = (hvL l).length + e := ⟨d - (hvL l).length, by omega⟩
  rw [he]
  exact mgF_le e _ _ (Nat.le_refl _)
theorem mgL_one {l : List (List Int)} (h : l.length ≤ 1) : mgL l = l.headD [] := mgF_small _ _ h
theorem add_add (a : Addr) (i j : Nat) : (a.add i).add j = a.add (i + j) := by
  unfold Addr.add
  by_cases h1 : i = 0
  · subst h1; simp
  · by_cases h2 : j = 0
    · subst h2; simp
    · rw [if_neg h1, if_neg h2, if_neg (by omega)]
      simp [Nat.add_assoc]
/-- What is kept that a row of numbers is told by: what came before W0, and the blocks of whole numbers. -/
structure Kp (W0 W W' : World) : Prop where
  old : ∀ k, k < W0.heap.size → W'.heap[k]? = W.heap[k]?
  nums : ∀ (k : Nat) (c : Array Value) (fz : Nat × Nat), W.heap[k]? = some (.cells c 3 fz) → W'.heap[k]? = some (.cells c 3 fz)
theorem Kp.refl (W0 W : World) : Kp W0 W W := ⟨fun _ _ => rfl, fun _ _ _ h => h⟩
theorem Kp.trans {W0 A B C : World} (h : Kp W0 A B) (k : Kp W0 B C) : Kp W0 A C := ⟨fun i hi => (k.old i hi).trans (h.old i hi), fun i c fz hh => k.nums i c fz (h.nums i c fz hh)⟩
/-- A row of numbers that stays readable. -/
def Row (W0 W : World) (A : Option Addr) (x : List Int) : Prop := ∀ W', Kp W0 W W' → Kd.C (Kd.int .i64) W' A x.length x
theorem Row.move {W0 W W1 : World} {A : Option Addr} {x : List Int} (h : Row W0 W A x) (k : Kp W0 W W1) : Row W0 W1 A x := fun W' hk => h W' (k.trans hk)
theorem Row.of_old {W0 W : World} {A : Option Addr} {x : List Int} (h : Kd.C (Kd.int .i64) W0 A x.length x) (hs : ∀ k, k < W0.heap.size → W.heap[k]? = W0.heap[k]?) : Row W0 W A x :=
  fun W' hk => (Kd.heap_int .i64).C (fun k hl => (hk.old k hl).trans (hs k hl)) h
theorem Row.of_R {W0 W : World} {base : Nat} {ok : Nat → Prop} {A : Option Addr} {c : Nat} {x : List Int} (h : Kd.R (Kd.int .i64) 3 W base ok (.slice A x.length c) x) : Row W0 W A x := fun W' hk =>
  (Kd.R_reads' (Kd.R_move (Kd.R_bound h) (fun k hh => by
    obtain ⟨_, _, _, q, hq, cells, hc⟩ := hh
    have hq : q = 3 := by simpa [Kd.int, Kd.scalar] using hq
    subst hq
    exact (hk.nums _ _ _ hc).trans hc.symm))).2.2
theorem cell_alloc {W : World} {a : Addr} {v : Value} {o : Obj} (h : W.cell? a = some v) : (W.alloc o).cell? a = some v := (World.cell?_alloc_lt _ _ _ (World.block_lt_of_cell? W a h)).trans h
theorem sx_below {W w1 : World} {a : Addr} {v : Value} {Q : Prop} (h : W.cell? a = some v ∧ Q) (hb : Below W.heap.size W w1) : w1.cell? a = some v ∧ Q := ⟨Kd.cell_heap (fun k hk => hb.block k hk) h.1, h.2⟩
theorem sx_below2 {W w1 : World} {a b : Addr} {v u : Value} (h : W.cell? a = some v ∧ W.cell? b = some u) (hb : Below W.heap.size W w1) : w1.cell? a = some v ∧ w1.cell? b = some u := ⟨Kd.cell_heap (fun k hk => hb.block k hk) h.1, Kd.cell_heap (fun k hk => hb.block k hk) h.2⟩
theorem cell_heap2 {W0 W : World} (h : ∀ k, k < W0.heap.size → W.heap[k]? = W0.heap[k]?) {a : Addr} {v : Value} (hc : W0.cell? a = some v) : W.cell? a = some v := Kd.cell_heap h hc
/-- Slices, each of a row of numbers that stays readable. -/
def Rows (W0 W : World) (vs : List Value) (xs : List (List Int)) : Prop := vs.length = xs.length ∧ ∀ (i : Nat) (x : List Int), xs[i]? = some x → ∃ (A : Option Addr) (c : Nat), vs[i]? = some (Value.slice A x.length c) ∧ x.length ≤ c ∧ Row W0 W A x
theorem Rows.move {W0 W W1 : World} {vs : List Value} {xs : List (List Int)} (h : Rows W0 W vs xs) (k : Kp W0 W W1) : Rows W0 W1 vs xs := ⟨h.1, fun i x hi => by
  obtain ⟨A, c, h1, h2, h3⟩ := h.2 i x hi
  exact ⟨A, c, h1, h2, h3.move k⟩⟩
theorem Rows.nil (W0 W : World) : Rows W0 W [] [] := ⟨rfl, fun i x h => by simp at h⟩
theorem Rows.snoc {W0 W : World} {vs : List Value} {xs : List (List Int)} {A : Option Addr} {c : Nat} {x : List Int} (h : Rows W0 W vs xs) (hx : Row W0 W A x) (hc : x.length ≤ c) : Rows W0 W (vs ++ [.slice A x.length c]) (xs ++ [x]) := by
  refine ⟨by simp [h.1], fun i y hi => ?_⟩
  rcases Nat.lt_or_ge i xs.length with hl | hl
  · rw [List.getElem?_append_left hl] at hi
    obtain ⟨A', c', h1, h2, h3⟩ := h.2 i y hi
    exact ⟨A', c', by rw [List.getElem?_append_left (by rw [h.1]; exact hl)]; exact h1, h2, h3⟩
  · rw [List.getElem?_append_right hl] at hi
    have : i - xs.length = 0 := by
      rcases Nat.eq_zero_or_pos (i - xs.length) with h | h
      · exact h
      · obtain ⟨m, hm⟩ : ∃ m, i - xs.length = m + 1 := ⟨i - xs.length - 1, by omega⟩
        rw [hm] at hi; simp at hi
    rw [this] at hi
    simp at hi
    subst hi
    exact ⟨A, c, by rw [List.getElem?_append_right (by rw [h.1]; exact hl), h.1, this]; rfl, hc, hx⟩
/-- The slices of a row of the call's own, read. -/
theorem Rows.read {W0 W : World} {base g cap : Nat} {vs : List Value} {xs : List (List Int)} (h : Rows W0 W vs xs) (ho : W.ownsRow base 23 1 (.slice (some ⟨g, 0, none⟩) xs.length cap) xs.length vs) (hm : xs.length ≤ 9223372036854775807) : Kd.C (Kd.slice 3 (Kd.int .i64)) W (some ⟨g, 0, none⟩) xs.length xs := by
  refine ⟨rfl, hm, fun hn => ⟨⟨g, 0, none⟩, rfl, fun j p hj => ?_⟩⟩
  obtain ⟨A, c, h1, h2, h3⟩ := h.2 j p hj
  refine ⟨[.slice A p.length c], rfl, ⟨A, c, rfl, h2, h3 W (Kp.refl _ _)⟩, fun i u hi => ?_⟩
  obtain ⟨rfl, rfl⟩ : i = 0 ∧ u = .slice A p.length c := by
    cases i with
    | zero => simp at hi; exact ⟨rfl, hi.symm⟩
    | succ i => simp at hi
  obtain ⟨hl, ho⟩ := ho
  rcases ho with ⟨hv, _⟩ | ⟨g', cap', cur, hv, _, hh, h4, h5, h6, h7⟩
  · cases hv
  · injection hv with ha _ _
    injection ha with ha
    injection ha with ha _ _
    subst ha
    show W.cell? ((⟨g, 0, none⟩ : Addr).add (j * 1 + 0)) = _
    rw [Nat.mul_one, Nat.add_zero, show (⟨g, 0, none⟩ : Addr).add j = ⟨g, j, none⟩ from by unfold Addr.add; split <;> simp_all, ← h1, ← h7, Nat.mul_one, List.getElem?_take_of_lt (List.getElem?_eq_some_iff.1 hj).1]
    simp [World.cell?, hh]
/-- What a step keeps that writes the variable at bh and rows of slices. -/
structure Okh (bh : Nat) (W W' : World) : Prop where
  size : W.heap.size ≤ W'.heap.size
  same : ∀ (k : Nat) (o : Obj), W.heap[k]? = some o → k ≠ bh → (∀ c fz, o ≠ .cells c 23 fz) → W'.heap[k]? = some o
theorem Okh.trans {bh : Nat} {a b c : World} (h : Okh bh a b) (k : Okh bh b c) : Okh bh a c := ⟨Nat.le_trans h.size k.size, fun i o h1 h2 h3 => k.same i o (h.same i o h1 h2 h3) h2 h3⟩
theorem Okh.of_below {bh : Nat} {a b : World} (h : Below a.heap.size a b) : Okh bh a b := ⟨h.size, fun k o hk _ _ => (h.block k (Array.getElem?_eq_some_iff.1 hk).1).trans hk⟩
theorem Okh.keeps {bh : Nat} {a b : World} {t : TypeId} {v : Value} (h : Okh bh a b) (hb : Boxed a bh t v) (B : Nat) : KeepsFrom B a b :=
  ⟨h.size, fun k o _ hk hc => h.same k o hk (fun e => by subst e; rw [show a.heap[k]? = _ from hb] at hk; cases hk; cases hc) (fun c fz e => by subst e; cases hc)⟩
/-- The merged rows so far, in the variable at bh; Z: the world at the round's start. -/
structure HVS (Z W : World) (bh : Nat) (v : Value) (vs : List Value) (xs : List (List Int)) : Prop where
  box : Boxed W bh 41 v
  row : W.ownsRow Z.heap.size 23 1 v xs.length vs
  rows : Rows Z W vs xs
  below : Below Z.heap.size Z W
  lb : Z.heap.size ≤ bh
theorem Kp.of_below {Z W W' : World} (hz : Z.heap.size ≤ W.heap.size) (h : Below W.heap.size W W') : Kp Z W W' := ⟨fun k hk => h.block k (Nat.lt_of_lt_of_le hk hz), fun k c fz hk => (h.block k (Array.getElem?_eq_some_iff.1 hk).1).trans hk⟩
theorem HVS.keep {Z W W' : World} {bh : Nat} {v : Value} {vs : List Value} {xs : List (List Int)} (h : HVS Z W bh v vs xs) (hb : Below W.heap.size W W') : HVS Z W' bh v vs xs :=
  ⟨(hb.block _ h.box.lt).trans h.box, own_move h.row (fun k hk => hb.block k (own_lt h.row k hk)), h.rows.move (Kp.of_below h.below.size hb), h.below.trans (hb.mono h.below.size), h.lb⟩
theorem HVS.append {Z W w1 : World} {bh : Nat} {v v1 : Value} {vs : List Value} {xs : List (List Int)} {A : Option Addr} {c : Nat} {x : List Int} (h : HVS Z W bh v vs xs) (hx : Row Z W A x) (hc : x.length ≤ c)
    (hown : w1.ownsRow Z.heap.size 23 1 v1 (xs.length + 1) (vs ++ [.slice A x.length c])) (hb : Below Z.heap.size Z w1) (hg : W.grownBy w1 v.ownBlock) :
    Boxed w1 bh 41 v ∧ HVS Z (w1.setCell ⟨bh, 0, none⟩ v1) bh v1 (vs ++ [.slice A x.length c]) (xs ++ [x]) ∧ Okh bh W (w1.setCell ⟨bh, 0, none⟩ v1) := by
  have hty : ∀ (k : Nat) (cs : Array Value) (t : TypeId) (fz : Nat × Nat), W.heap[k]? = some (.cells cs t fz) → t ≠ 23 → w1.heap[k]? = some (.cells cs t fz) := fun k cs t fz hk ht => (hg.block k (Array.getElem?_eq_some_iff.1 hk).1 (fun e => by
    obtain ⟨cells, hc⟩ := own_typed h.row k e.symm
    rw [hk] at hc; injection hc with hc; injection hc with _ hc; exact ht hc)).trans hk
  have hbx : Boxed w1 bh 41 v := hty _ _ _ _ h.box (by decide)
  have hnr : some bh ≠ v1.ownBlock := hbx.not_row (by decide) hown
  refine ⟨hbx, ⟨hbx.set v1, ?_, ?_, hb.setCell h.lb _, h.lb⟩, ⟨?_, fun k o hk h1 h2 => ?_⟩⟩
  · rw [List.length_append, List.length_singleton]
    exact own_move hown (fun k hk => Below.heap_setCell w1 ⟨bh, 0, none⟩ v1 k (fun e => by have e : k = bh := e; subst e; exact hnr hk.symm))
  · refine (h.rows.snoc hx hc).move ⟨fun k hk => ?_, fun k cs fz hk => ?_⟩
    · exact (Below.heap_setCell w1 ⟨bh, 0, none⟩ v1 k (by have := h.lb; show k ≠ bh; omega)).trans ((hb.block k hk).trans (h.below.block k hk).symm)
    · have hne : k ≠ bh := fun e => by subst e; rw [show W.heap[k]? = _ from h.box] at hk; injection hk with hk; injection hk with _ hk; exact absurd hk (by decide)
      exact (Below.heap_setCell w1 ⟨bh, 0, none⟩ v1 k hne).trans (hty _ _ _ _ hk (by decide))
  · simpa using hg.size
  · refine (Below.heap_setCell w1 ⟨bh, 0, none⟩ v1 k h1).trans ((hg.block k (Array.getElem?_eq_some_iff.1 hk).1 (fun e => ?_)).trans hk)
    obtain ⟨cells, hc⟩ := own_typed h.row k e.symm
    rw [hk] at hc
    cases hc
    exact h2 _ _ rfl
theorem PAt.okh {W W' w0 : World} {bh b1 b2 : Nat} {ad : Addr} {c n : Nat} (h : chunk.PAt W w0 b1 b2 ad c n) (hk : Okh bh W W') (h1 : b1 ≠ bh) (h2 : b2 ≠ bh) (hb : Below w0.heap.size w0 W') : chunk.PAt W' w0 b1 b2 ad c n ∧ KeptAt (chunk.PS w0.heap.size b1 b2) W W' := by
  have e1 := hk.same _ _ h.box h1 (fun c fz e => by injection e with _ e _; exact absurd e (by decide))
  have e2 := hk.same _ _ h.num h2 (fun c fz e => by injection e with _ e _; exact absurd e (by decide))
  refine ⟨⟨e1, e2, fun k hk => hb.block k hk⟩, ?_⟩
  rintro k (hk | rfl | rfl)
  · exact (hb.block k hk).trans (h.same k hk).symm
  · exact e1.trans h.box.symm
  · exact e2.trans h.num.symm
def postings_Merge.f (k : Nat) (l0 : List (List Int)) : Option (List Int) :=
  if (l0.length : Int) = 0 then some [] else (postings_valid.f k l0).bind fun t => if t = true then (if l0.length < 1000000000 ∧ tot l0 < 8796093022208 then some (mgL l0) else none) else some []
theorem postings_Merge.mono : ∀ a0 k, LeO (postings_Merge.f k a0) (postings_Merge.f (k + 1) a0) := by
  intro a0 k
  unfold postings_Merge.f
  by_cases h : (a0.length : Int) = 0
  · rw [if_pos h, if_pos h]; exact fun _ hh => hh
  · rw [if_neg h, if_neg h]
    refine LeO.bind (postings_valid.mono _ _) (fun t => ?_)
    exact fun _ hh => hh
theorem infoSl : (Try.prog.info? 23).map (fun i => (i.zero, i.size, i.bytes)) = some (some (.slice none 0 0), 1, 24) := by kernel_rfl
section
variable {P : Program} {Q : Exit → Act → World → Prop}
/-- A region in a round, in whatever order, while what S says of the world holds. -/
theorem round_held {id l n : Nat} {a : Act} {w : World} {ol : List Oper} (S : World → Prop) (hm : P.follows .mixedOrders = true) (hd : noDeferB ol = true) (hq : ¬ LetsOut Q)
    (h : wpAnyH P .any ol.toArray Q S ol.toArray.size (Array.replicate ol.toArray.size false) a w.drew) : (Code.region id ol.toArray true).wpIn (Fence.wide.inRound l) n P Q a w :=
  wpIn_region_any hm (anyIn_of_any (fun i o c hi => noDefer_spec hd hi c) hq _ _ _ _ (wpAny_of_held _ _ _ _ h))
end
def lenOf : Value → Nat
  | .slice _ n _ => n
  | _ => 0
end Go.Proofs.Ytdmdhpnlalekfaa.Hand
