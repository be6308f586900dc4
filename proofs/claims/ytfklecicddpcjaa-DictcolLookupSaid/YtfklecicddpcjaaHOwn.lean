/- slices.Sort of a row of ints, slices.Reverse of a row of strings, of the call's own, in the words of the print's rows that are kept. No condition beyond those in the statements. -/
import Derived.Test.YtfklecicddpcjaaHZ
namespace Go.Proofs.Ytfklecicddpcjaa.Hand
open Go.RowKit Go.Lib Go.Sort Go.Proofs.YtfklecicddpcjaaW.PrintWords Go.Proofs.YtfklecicddpcjaaW.PrintMore
set_option linter.unusedVariables false
set_option linter.unusedSimpArgs false
/-- A row of ints, as its block tells it. -/
theorem R_ints {e base : Nat} {ok : Nat → Prop} {w : World} {v : Value} {l : List Int} (h : (Kd.int .i64).R e w base ok v l) :
    (v = .slice none 0 0 ∧ l = []) ∨ ∃ g cap cur, v = .slice (some ⟨g, 0, none⟩) l.length cap ∧ base ≤ g ∧ w.heap[g]? = some (.cells cur e (0, 0)) ∧ l.length ≤ cap ∧ cap ≤ maxLen ∧ cur.size = cap ∧ cur.toList.take l.length = l.map (Value.int .i64) ∧ ok g := by
  obtain ⟨h0, inner, ho, hr⟩ := h
  have hin : inner = l.map (Value.int .i64) := by
    have h1 : inner.length = l.length := by have := hr.1; simpa [Kd.int, Kd.scalar] using this
    apply List.ext_getElem (by simpa using h1)
    intro j hj _
    have h2 := hr.2 j l[j] (List.getElem?_eq_getElem (by omega))
    have h3 : (inner.drop (j * 1)).take 1 = [(Value.int .i64) l[j]] := h2
    rw [Nat.mul_one, List.drop_eq_getElem_cons hj] at h3
    simp only [List.take_succ_cons, List.take_zero, List.cons.injEq, and_true] at h3
    rw [h3, List.getElem_map]
  subst hin
  rcases ho.2 with ⟨hv, hn⟩ | ⟨g, cap, cur, hv, hb, hh, hn, hm, hs, ht⟩
  · exact .inl ⟨hv, List.eq_nil_of_length_eq_zero hn⟩
  · refine .inr ⟨g, cap, cur, hv, hb, hh, hn, hm, ?_, ?_, h0 g (by rw [hv]; rfl)⟩
    · simpa [Kd.int, Kd.scalar] using hs
    · simpa [Kd.int, Kd.scalar] using ht
theorem Reps_ints {w : World} {base : Nat} {ok : Nat → Prop} : ∀ l : List Int, Reps ((Kd.int .i64).M w base ok) 1 l (l.map (Value.int .i64))
  | [] => Reps.none _ _
  | x :: l => Reps.one rfl (Reps_ints l)
theorem ints_R {e base : Nat} {ok : Nat → Prop} {w : World} {g cap : Nat} {cur : Array Value} {l : List Int} (hb : base ≤ g) (hh : w.heap[g]? = some (.cells cur e (0, 0))) (hn : l.length ≤ cap) (hm : cap ≤ maxLen) (hs : cur.size = cap) (ht : cur.toList.take l.length = l.map (Value.int .i64)) (ho : ok g) :
    (Kd.int .i64).R e w base ok (.slice (some ⟨g, 0, none⟩) l.length cap) l :=
  ⟨fun k hk => by simp only [Value.ownBlock, Option.some.injEq] at hk; subst hk; exact ho, l.map (Value.int .i64), ⟨by simp [Kd.int, Kd.scalar], .inr ⟨g, cap, cur, rfl, hb, hh, hn, hm, by simpa [Kd.int, Kd.scalar] using hs, by simpa [Kd.int, Kd.scalar] using ht⟩⟩, Reps_ints l⟩
theorem ints_holds {w : World} {g : Nat} {e : Nat} {cur : Array Value} {l : List Int} (hh : w.heap[g]? = some (.cells cur e (0, 0))) (ht : cur.toList.take l.length = l.map (Value.int .i64)) : Holds (Value.int .i64) w g 0 l.toArray := by
  have h := holds_of_ints (w := w) (b := g) (off := 0) (n := l.length) (zs := l) (Nat.le_refl _) (fun j hj => by
    rw [Nat.zero_add, blk_cell hh j, ← Array.getElem?_toList]
    have h1 : (cur.toList.take l.length)[j]? = some (Value.int .i64 l[j]) := by rw [ht]; simp [hj]
    rw [List.getElem?_take, if_pos hj] at h1
    rw [h1, List.getD_eq_getElem?_getD, List.getElem?_eq_getElem hj]
    rfl) (fun j _ => blk_frozen hh _)
  rw [List.take_length] at h
  exact h
/-- What a rewrite of the row's cells leaves. -/
theorem puti_R {e base cap : Nat} {ok : Nat → Prop} {w : World} {g : Nat} {cur : Array Value} {l : List Int} (q : Nat) (os : Array Obj) (hb : base ≤ g) (hh : w.heap[g]? = some (.cells cur e (0, 0))) (hn : l.length ≤ cap) (hm : cap ≤ maxLen) (hs : cur.size = cap) (ht : cur.toList.take l.length = l.map (Value.int .i64)) (ho : ok g) (ys : List Int) (hy : ys.length = l.length) :
    (Kd.int .i64).R e (grow (putRow (Value.int .i64) (Sort.ahead w q) g 0 ys.toArray) os) base ok (.slice (some ⟨g, 0, none⟩) l.length cap) ys ∧ w.grownBy (grow (putRow (Value.int .i64) (Sort.ahead w q) g 0 ys.toArray) os) (some g) := by
  rw [putRow_eq_setCells (Value.int .i64) w g 0 l.toArray ys q (ints_holds hh ht) (by simp [ubs, hy])]
  have hhq : (w.drewN q).heap[g]? = some (.cells cur e (0, 0)) := hh
  obtain ⟨cur2, m1, m2, m3⟩ := setCells_row (ys.map (Value.int .i64)) 0 (w.drewN q) cur hhq (by simp; omega)
  have hG : w.grownBy ((w.drewN q).setCells g 0 (ys.map (Value.int .i64))) (some g) := by
    obtain ⟨a, b, c, d, f⟩ := setCells_grownS (w.drewN q) g 0 (ys.map (Value.int .i64))
    exact ⟨a, b, c, d, f⟩
  obtain ⟨W, hW⟩ : ∃ W, W = (w.drewN q).setCells g 0 (ys.map (Value.int .i64)) := ⟨_, rfl⟩
  rw [← hW] at m1 hG ⊢
  have hsz := hG.size
  have hlt : g < W.heap.size := blk_lt m1
  have hgrow : ∀ k, k < W.heap.size → (grow W os).heap[k]? = W.heap[k]? := fun k hk => by
    show (W.heap ++ os)[k]? = W.heap[k]?
    rw [Array.getElem?_append_left hk]
  constructor
  · have e1 : ys.length = l.length := by simp [hy]
    have h := ints_R (l := ys) (ok := ok) hb ((hgrow g hlt).trans m1) (by omega) hm (by omega) (by
      rw [m3, e1]
      simp only [List.take_zero, List.nil_append, Nat.zero_add]
      rw [List.take_append_of_le_length (by simp [hy]), List.take_of_length_le (by simp [hy])]) ho
    rw [e1] at h
    exact h
  · exact ⟨hG.os, hG.tape, hG.output, by show w.heap.size ≤ (W.heap ++ os).size; rw [Array.size_append]; omega, fun k hk hne => (hgrow k (by omega)).trans (hG.block k hk hne)⟩
def sortI (l : List Int) : List Int := l.mergeSort fun x y => decide (x ≤ y)
def sort_int.f (l : List Int) : Option (List Int) := if l.length < 4611686018427387904 then some (sortI l) else none
def rev_str.f (l : List ByteArray) : Option (List ByteArray) := some l.reverse
set_option maxRecDepth 100000 in
set_option maxHeartbeats 2000000 in
theorem insI_nil (w : World) : Calls Try.prog 63 #[.slice none 0 0, .int .i64 0, .int .i64 0] w fun en w' => en = .returned (.tuple #[]) ∧ w' = w := by
  go_enter Try.func63, Try.ntmps63
  go_wp2
  go_loopg [6] 0 (fun k s6 wr => s6 = .int .i64 1 ∧ wr = w)
  case atStart => exact ⟨rfl, rfl⟩
  case round =>
    obtain ⟨rfl, rfl⟩ := hrel
    go_wp2
    go_end0
    exact ⟨rfl, rfl⟩
set_option maxRecDepth 100000 in
set_option maxHeartbeats 2000000 in
theorem pdqI_nil (w : World) : Calls Try.prog 50 #[.slice none 0 0, .int .i64 0, .int .i64 0, .int .i64 0] w fun en w' => en = .returned (.tuple #[]) ∧ w' = w := by
  go_enter Try.func50, Try.ntmps50
  go_wp2
  go_loopg [1, 2, 3] 0 (fun k s1 s2 s3 wr => s1 = .int .i64 0 ∧ s2 = .int .i64 0 ∧ s3 = .int .i64 0 ∧ wr = w)
  case atStart => exact ⟨rfl, rfl, rfl, rfl⟩
  case round =>
    obtain ⟨rfl, rfl, rfl, rfl⟩ := hrel
    go_wp2_with (go_at_call 63; refine (insI_nil _).mono ?_; rintro en w' ⟨rfl, rfl⟩)
    refine bodyPost_ret (results_none rfl _ _ _) rfl ?_
    exact ⟨rfl, rfl⟩
set_option maxRecDepth 100000 in
set_option maxHeartbeats 2000000 in
theorem sortI_nil (w : World) : Calls Try.prog 32 #[.slice none 0 0] w fun en w' => en = .returned (.tuple #[]) ∧ w' = w := by
  have hb : (Lib.bitLen (0 : Int).toNat : Int) = 0 := by decide
  go_enter Try.func32, Try.ntmps32
  go_wp2_with (first | (go_at_call 51; refine (Try.bits_Len 0 _ (by omega) (by omega)).mono ?_; rintro en w' ⟨rfl, rfl⟩; rw [hb]) | (go_at_call 50; refine (pdqI_nil _).mono ?_; rintro en w' ⟨rfl, rfl⟩))
  go_end0
  exact ⟨rfl, rfl⟩
theorem sortI_own.calls {e base : Nat} {ok : Nat → Prop} {w : World} {v : Value} {l : List Int} (h : (Kd.int .i64).R e w base ok v l) (hl : l.length < 4611686018427387904) :
    Calls Try.prog 32 #[v] w fun en w' => en = .returned (.tuple #[]) ∧ (Kd.int .i64).R e w' base ok v (sortI l) ∧ w.grownBy w' v.ownBlock := by
  rcases R_ints h with ⟨rfl, rfl⟩ | ⟨g, cap, cur, rfl, hb, hh, hn, hm, hs, ht, ho⟩
  · refine (sortI_nil w).mono ?_
    rintro en w' ⟨rfl, rfl⟩
    have e0 : sortI [] = [] := by simp [sortI]
    exact ⟨rfl, by rw [e0]; exact h, World.grownBy.refl _ _⟩
  · have C := Try.slices_Sort_int g 0 cap l w (ints_holds hh ht) (blk_lt hh) (by omega)
    refine C.mono ?_
    rintro en w' ⟨rfl, q, os, rfl⟩
    have hp := puti_R (ok := ok) q os hb hh hn hm hs ht ho (l.mergeSort fun x y => decide (x ≤ y)) (by rw [List.length_mergeSort])
    exact ⟨rfl, hp.1, hp.2⟩
theorem sort_int.calls (P0_ : Nat → Prop) (u : Value) (l0 r : List Int) (w0 w : World) (hB : Below w0.heap.size w0 w) (ho : Kd.R (Kd.int .i64) 3 w w0.heap.size P0_ u l0) (h : sort_int.f l0 = some r) :
    Calls Try.prog 32 #[u] w fun e w' => e = .returned (.tuple #[]) ∧ Kd.R (Kd.int .i64) 3 w' w0.heap.size P0_ u r ∧ Below w0.heap.size w0 w' ∧ Kept w w' P0_ := by
  unfold sort_int.f at h
  by_cases c : l0.length < 4611686018427387904
  · rw [if_pos c] at h
    cases h
    refine (sortI_own.calls ho c).mono ?_
    rintro e w' ⟨rfl, h1, hg⟩
    exact ⟨rfl, h1, hB.grown hg (by have := hB.size; omega) (fun k hk => Kd.R_base ho k hk), Kept.of_grown hg (Kept.refl w _) (fun k hk => .inl (ho.1 k hk))⟩
  · rw [if_neg c] at h; cases h
theorem rev_str.calls (P0_ : Nat → Prop) (u : Value) (l0 r : List ByteArray) (w0 w : World) (hB : Below w0.heap.size w0 w) (ho : Kd.R Kd.string 9 w w0.heap.size P0_ u l0) (h : rev_str.f l0 = some r) :
    Calls Try.prog 29 #[u] w fun e w' => e = .returned (.tuple #[]) ∧ Kd.R Kd.string 9 w' w0.heap.size P0_ u r ∧ Below w0.heap.size w0 w' ∧ Kept w w' P0_ := by
  cases h
  refine (reverse_str.calls ho).mono ?_
  rintro e w' ⟨rfl, h1, hg⟩
  exact ⟨rfl, h1, hB.grown hg (by have := hB.size; omega) (fun k hk => Kd.R_base ho k hk), Kept.of_grown hg (Kept.refl w _) (fun k hk => .inl (ho.1 k hk))⟩
end Go.Proofs.Ytfklecicddpcjaa.Hand
