/- Several texts of this session in one. No condition beyond those in the statements. -/
import Derived.Test.YthblifjeecdhcaaProg
import Derived.Test.YthblifjeecdhcaaWMore
import Derived.Test.YthblifjeecdhcaaWZeros
import Derived.Shelf.RegionOpenPlain
import Derived.WalkKit
import Derived.KernelRfl
import Derived.Deep.LoopGhost
import Derived.Deep.QuietTactic
import Derived.BigQuiet
import Derived.Test.YthblifjeecdhcaaShelf
import Derived.Test.YthblifjeecdhcaaWKept
import Derived.Test.YthblifjeecdhcaaWRepsOne
import Derived.Lib.RowBridge
section
namespace Go.Proofs.Ythblifjeecdhcaa.Hand
open Go.RowKit Go.Shelf Go.Proofs.YthblifjeecdhcaaW.PrintWords Go.Proofs.YthblifjeecdhcaaW.PrintLast Go.Proofs.YthblifjeecdhcaaW.PrintMore
set_option linter.unusedVariables false
set_option linter.unusedSimpArgs false
def grow_nil.f (a1 : Int) : Option (List ByteArray) := if 0 ≤ a1 ∧ a1 * 16 ≤ 140737488355328 then some [] else none
theorem info_str : (Try.prog.info? 9).map (fun i => (i.zero, i.size, i.bytes)) = some (some (.string ByteArray.empty), 1, 16) := by kernel_rfl
set_option maxRecDepth 100000 in
set_option maxHeartbeats 4000000 in
theorem grow_nil.calls (a1 : Int) (r : List ByteArray) (w : World) (h : grow_nil.f a1 = some r) :
    Calls Try.prog 42 #[.slice none 0 0, .int .i64 a1] w fun e w' => ∃ v0_ : Value, e = .returned v0_ ∧ Kd.R Kd.string 9 w' w.heap.size (fun _ => True) v0_ r ∧ Below w.heap.size w w' := by
  unfold grow_nil.f at h
  split at h
  case isFalse => cases h
  rename_i hn
  cases h
  obtain ⟨h0, h1⟩ := hn
  go_enter Try.func42, Try.ntmps42
  have hw : wrap64 (a1 - wrap64 (0 - 0)) = a1 := by unfold wrap64; omega
  have t0 : decide (a1 < 0) = false := decide_eq_false (by omega)
  by_cases hp : a1 > 0
  · have t1 : decide (a1 > 0) = true := decide_eq_true hp
    go_wp2_with ((with_reducible refine gate_builtin (b := .append) (xs := #[.tmp 20, .tmp 21]) rfl ?_); at_builtin; refine Kd.R_append_zeros Kd.string (w0 := w) w.heap.size rfl (.tmp 20) (.tmp 21) 38 3 9 (.string ByteArray.empty) 16 rfl Try.underlying38 Try.underlying3 info_str rfl (by decide) (by omega) (.slice none 0 0) [] ByteArray.empty a1 (fun _ => True) rfl rfl rfl (fun _ _ => trivial) (Kd.R_nil _ _ _ _ _) h0 (Below.refl _ _) (Nat.le_refl _) (by simp; omega) ?_; intro v1 w1 ho hb hg hat; obtain ⟨A1, c1, rfl⟩ := Kd.R_slice ho; have ho' := Aside0.mk ho; clear ho)
    go_ret
    exact ⟨_, rfl, by have h := Kd.R_take (m := 0) ho'.out (Nat.zero_le _); simp only [List.take_zero] at h; exact h, hb⟩
  · have t1 : decide (a1 > 0) = false := decide_eq_false hp
    go_wp2
    go_ret
    exact ⟨_, rfl, Kd.R_nil _ _ _ _ _, Below.refl _ _⟩
end Go.Proofs.Ythblifjeecdhcaa.Hand
end
section
namespace Go.Proofs.Ythblifjeecdhcaa.Hand
open Go.RowKit Go.Proofs.YthblifjeecdhcaaW.PrintWords Go.Proofs.YthblifjeecdhcaaW.PrintLast Go.Proofs.YthblifjeecdhcaaW.PrintMore
set_option linter.unusedVariables false
namespace contains_long
def pred : ByteArray → Bool := fun s => decide (200 < s.size)
theorem closure (a0 : ByteArray) (w : World) : Calls Try.prog 41 #[.string a0] w fun e w' => e = .returned (.bool (pred a0)) ∧ ∃ m, w' = w.drewN m := by
  by_cases h1 : 200 < a0.size
  · have t1 : decide ((200 : Int) < (a0.size : Int)) = true := decide_eq_true (by omega)
    have t2 : decide (200 < a0.size) = true := decide_eq_true h1
    have hp : pred a0 = true := decide_eq_true h1
    rw [hp]
    go_enter Try.func41, Try.ntmps41
    go_wp2
    repeat (go_quiet (fail); try go_wp2)
    go_ret
    exact ⟨by rw [← t1]; rfl, ⟨0, rfl⟩⟩
  · have t1 : decide ((200 : Int) < (a0.size : Int)) = false := decide_eq_false (by omega)
    have t2 : decide (200 < a0.size) = false := decide_eq_false h1
    have hp : pred a0 = false := decide_eq_false h1
    rw [hp]
    go_enter Try.func41, Try.ntmps41
    go_wp2
    repeat (go_quiet (fail); try go_wp2)
    go_ret
    exact ⟨by rw [← t1]; rfl, ⟨0, rfl⟩⟩
set_option maxHeartbeats 2000000 in
set_option maxRecDepth 100000 in
theorem index (A0 : Option Addr) (c0 : Nat) (l0 : List ByteArray) (w : World) (hr0 : Kd.C Kd.string w A0 l0.length l0) (hc0 : l0.length ≤ c0) :
    Calls Try.prog 58 #[.slice A0 l0.length c0, .func (.func 41) #[] #[]] w fun e w' => (∃ i : Int, e = .returned (.int .i64 i) ∧ (decide (0 ≤ i) = l0.any pred)) ∧ Drawn0 w w' := by
  have HR0 := Aside0.mk hr0
  have HC0 := Aside0.mk hc0
  have hlen := hr0.2.1
  clear hr0 hc0
  go_enter Try.func58, Try.ntmps58
  go_wp2
  repeat (go_quiet (fail); try go_wp2)
  go_loopw [8, 5] (fun v8 v5 wr => ∃ k : Nat, k ≤ l0.length ∧ v8 = .int .i64 k ∧ Aside0 ((l0.take k).any pred = false) ∧ Drawn0 w wr) (fun v8 _ _ => l0.length - (intOf v8).toNat)
  case atStart => exact ⟨0, Nat.zero_le _, rfl, ⟨by simp⟩, by repeat (first | exact Drawn0.refl _ | apply Drawn0.step)⟩
  case round =>
    obtain ⟨k, hk, rfl, HP, ⟨m1, rfl⟩⟩ := hrel
    by_cases hlt : k < l0.length
    · obtain ⟨x, hx⟩ : ∃ x : Int, x = (k : Int) := ⟨_, rfl⟩
      have p1 : 0 ≤ x := by omega
      have q1 : x < (l0.length : Int) := by omega
      obtain ⟨ad, e1, hcell⟩ := Kd.at_string HR0.out x p1 q1
      cases e1
      subst hx
      clear p1 q1
      simp only [Int.toNat_natCast] at hcell
      have HX : Aside0 (l0.take (k + 1) = l0.take k ++ [l0[k]]) := ⟨by rw [List.take_succ_eq_append_getElem hlt]⟩
      obtain ⟨y, hy⟩ : ∃ y, y = rdOf ByteArray.empty l0 (k : Int) := ⟨_, rfl⟩
      have HY : Aside0 (y = l0[k]) := ⟨by rw [hy]; simp [rdOf, List.getD_eq_getElem?_getD, hlt]⟩
      rw [← hy] at hcell
      have HZ := Aside0.mk hy
      clear hy
      by_cases hb : pred y = true
      · have hcl := fun (m : Nat) => closure y (w.drewN m)
        rw [hb] at hcl
        go_wp2_with (go_at_call 41; refine (hcl _).mono ?_; rintro e w' ⟨rfl, ⟨m2, rfl⟩⟩)
        repeat (go_quiet (fail); try go_wp2)
        go_ret
        refine ⟨⟨_, rfl, ?_⟩, by first | exact ⟨⟨_, rfl⟩⟩ | (repeat (first | exact Drawn0.refl _ | apply Drawn0.step))⟩
        have h1 : l0.any pred = true := by
          rw [List.any_eq_true]
          exact ⟨l0[k], List.getElem_mem _, by rw [← HY.out]; exact hb⟩
        rw [h1, decide_eq_true_eq]; omega
      · have hb : pred y = false := by simpa using hb
        have hcl := fun (m : Nat) => closure y (w.drewN m)
        rw [hb] at hcl
        go_wp2_with (go_at_call 41; refine (hcl _).mono ?_; rintro e w' ⟨rfl, ⟨m2, rfl⟩⟩)
        repeat (go_quiet (fail); try go_wp2)
        go_roundw
        case rel => exact ⟨k + 1, by omega, by go_num, ⟨by rw [HX.out, List.any_append, HP.out, ← HY.out]; simp [hb]⟩, by first | exact ⟨⟨_, rfl⟩⟩ | (repeat (first | exact Drawn0.refl _ | apply Drawn0.step))⟩
        case measure => simp [intOf]; omega
    · obtain rfl : k = l0.length := by omega
      go_wp2
      repeat (go_quiet (fail); try go_wp2)
      go_ret
      refine ⟨⟨_, rfl, ?_⟩, by first | exact ⟨⟨_, rfl⟩⟩ | (repeat (first | exact Drawn0.refl _ | apply Drawn0.step))⟩
      have := HP.out
      rw [List.take_length] at this
      rw [this]; rfl
def f (l0 : List ByteArray) : Option Bool := some (l0.any pred)
set_option maxHeartbeats 2000000 in
set_option maxRecDepth 100000 in
theorem calls (A0 : Option Addr) (c0 : Nat) (l0 : List ByteArray) (r : Bool) (w : World) (hr0 : Kd.C Kd.string w A0 l0.length l0) (hc0 : l0.length ≤ c0) (h : f l0 = some r) :
    Calls Try.prog 40 #[.slice A0 l0.length c0, .func (.func 41) #[] #[]] w fun e w' => e = .returned (.bool r) ∧ Drawn0 w w' := by
  simp only [f, Option.some.injEq] at h
  have H := Aside0.mk h
  clear h
  have hi := index A0 c0 l0 w hr0 hc0
  clear hr0 hc0
  go_enter Try.func40, Try.ntmps40
  go_wp2_with (go_at_call 58; refine hi.mono ?_; rintro e w' ⟨⟨i, rfl, h1⟩, ⟨m2, rfl⟩⟩; have H1 := Aside0.mk h1; clear h1)
  repeat (go_quiet (fail); try go_wp2)
  go_ret
  exact ⟨by rw [← H.out, ← H1.out]; rfl, ⟨⟨_, rfl⟩⟩⟩
end contains_long
end Go.Proofs.Ythblifjeecdhcaa.Hand
end
section
namespace Go.Proofs.Ythblifjeecdhcaa.Hand
open Go.RowKit Go.Lib Go.Sort Go.Proofs.YthblifjeecdhcaaW.PrintWords Go.Proofs.YthblifjeecdhcaaW.PrintMore
set_option linter.unusedVariables false
set_option linter.unusedSimpArgs false
theorem setCells_grownS (w : World) (g o : Nat) (vs : List Value) : w.grownBy (w.setCells g o vs) (some g) := by
  obtain ⟨h1, h2, h3, h4⟩ := setCells_same g vs o w
  exact ⟨h1, h2, h3, by rw [h4]; exact Nat.le_refl _, fun k _ hne => setCells_far vs o k (fun e => hne (by rw [e]))⟩
/-- A row of ints, as its block tells it. -/
theorem R_ints {e base : Nat} {ok : Nat → Prop} {w : World} {v : Value} {l : List Int} (h : (Kd.int .i64).R e w base ok v l) :
    (v = .slice none 0 0 ∧ l = []) ∨ ∃ g cap cur, v = .slice (some ⟨g, 0, none⟩) l.length cap ∧ base ≤ g ∧ w.heap[g]? = some (.cells cur e (0, 0)) ∧ l.length ≤ cap ∧ cap ≤ maxLen ∧ cur.size = cap ∧ cur.toList.take l.length = l.map (Value.int .i64) ∧ ok g := by
  obtain ⟨h0, inner, ho, hr⟩ := h
  have hin : inner = l.map (Value.int .i64) := by
    have h1 : inner.length = l.length := by have := hr.1; simpa [Kd.int, Kd.scalar] using this
    apply List.ext_getElem (by simpa using h1)
    intro j hj _
    have h2 := hr.2 j l[j] (List.getElem?_eq_getElem (by omega))
    have h3 : (inner.drop (j * 1)).take 1 = [(Value.int .i64) l[j]] := h2
    rw [Nat.mul_one, List.drop_eq_getElem_cons hj] at h3
    simp only [List.take_succ_cons, List.take_zero, List.cons.injEq, and_true] at h3
    rw [h3, List.getElem_map]
  subst hin
  rcases ho.2 with ⟨hv, hn⟩ | ⟨g, cap, cur, hv, hb, hh, hn, hm, hs, ht⟩
  · exact .inl ⟨hv, List.eq_nil_of_length_eq_zero hn⟩
  · refine .inr ⟨g, cap, cur, hv, hb, hh, hn, hm, ?_, ?_, h0 g (by rw [hv]; rfl)⟩
    · simpa [Kd.int, Kd.scalar] using hs
    · simpa [Kd.int, Kd.scalar] using ht
theorem Reps_ints {w : World} {base : Nat} {ok : Nat → Prop} : ∀ l : List Int, Reps ((Kd.int .i64).M w base ok) 1 l (l.map (Value.int .i64))
  | [] => Reps.none _ _
  | x :: l => Reps.one rfl (Reps_ints l)
theorem ints_R {e base : Nat} {ok : Nat → Prop} {w : World} {g cap : Nat} {cur : Array Value} {l : List Int} (hb : base ≤ g) (hh : w.heap[g]? = some (.cells cur e (0, 0))) (hn : l.length ≤ cap) (hm : cap ≤ maxLen) (hs : cur.size = cap) (ht : cur.toList.take l.length = l.map (Value.int .i64)) (ho : ok g) :
    (Kd.int .i64).R e w base ok (.slice (some ⟨g, 0, none⟩) l.length cap) l :=
  ⟨fun k hk => by simp only [Value.ownBlock, Option.some.injEq] at hk; subst hk; exact ho, l.map (Value.int .i64), ⟨by simp [Kd.int, Kd.scalar], .inr ⟨g, cap, cur, rfl, hb, hh, hn, hm, by simpa [Kd.int, Kd.scalar] using hs, by simpa [Kd.int, Kd.scalar] using ht⟩⟩, Reps_ints l⟩
theorem ints_holds {w : World} {g : Nat} {e : Nat} {cur : Array Value} {l : List Int} (hh : w.heap[g]? = some (.cells cur e (0, 0))) (ht : cur.toList.take l.length = l.map (Value.int .i64)) : Holds (Value.int .i64) w g 0 l.toArray := by
  have h := holds_of_ints (w := w) (b := g) (off := 0) (n := l.length) (zs := l) (Nat.le_refl _) (fun j hj => by
    rw [Nat.zero_add, blk_cell hh j, ← Array.getElem?_toList]
    have h1 : (cur.toList.take l.length)[j]? = some (Value.int .i64 l[j]) := by rw [ht]; simp [hj]
    rw [List.getElem?_take, if_pos hj] at h1
    rw [h1, List.getD_eq_getElem?_getD, List.getElem?_eq_getElem hj]
    rfl) (fun j _ => blk_frozen hh _)
  rw [List.take_length] at h
  exact h
/-- What a rewrite of the row's cells leaves. -/
theorem puti_R {e base cap : Nat} {ok : Nat → Prop} {w : World} {g : Nat} {cur : Array Value} {l : List Int} (q : Nat) (os : Array Obj) (hb : base ≤ g) (hh : w.heap[g]? = some (.cells cur e (0, 0))) (hn : l.length ≤ cap) (hm : cap ≤ maxLen) (hs : cur.size = cap) (ht : cur.toList.take l.length = l.map (Value.int .i64)) (ho : ok g) (ys : List Int) (hy : ys.length = l.length) :
    (Kd.int .i64).R e (grow (putRow (Value.int .i64) (Sort.ahead w q) g 0 ys.toArray) os) base ok (.slice (some ⟨g, 0, none⟩) l.length cap) ys ∧ w.grownBy (grow (putRow (Value.int .i64) (Sort.ahead w q) g 0 ys.toArray) os) (some g) := by
  rw [putRow_eq_setCells (Value.int .i64) w g 0 l.toArray ys q (ints_holds hh ht) (by simp [hy])]
  have hhq : (w.drewN q).heap[g]? = some (.cells cur e (0, 0)) := hh
  obtain ⟨cur2, m1, m2, m3⟩ := setCells_row (ys.map (Value.int .i64)) 0 (w.drewN q) cur hhq (by simp; omega)
  have hG : w.grownBy ((w.drewN q).setCells g 0 (ys.map (Value.int .i64))) (some g) := by
    obtain ⟨a, b, c, d, f⟩ := setCells_grownS (w.drewN q) g 0 (ys.map (Value.int .i64))
    exact ⟨a, b, c, d, f⟩
  obtain ⟨W, hW⟩ : ∃ W, W = (w.drewN q).setCells g 0 (ys.map (Value.int .i64)) := ⟨_, rfl⟩
  rw [← hW] at m1 hG ⊢
  have hsz := hG.size
  have hlt : g < W.heap.size := blk_lt m1
  have hgrow : ∀ k, k < W.heap.size → (grow W os).heap[k]? = W.heap[k]? := fun k hk => by
    show (W.heap ++ os)[k]? = W.heap[k]?
    rw [Array.getElem?_append_left hk]
  constructor
  · have e1 : ys.length = l.length := by simp [hy]
    have h := ints_R (l := ys) (ok := ok) hb ((hgrow g hlt).trans m1) (by omega) hm (by omega) (by
      rw [m3, e1]
      simp only [List.take_zero, List.nil_append, Nat.zero_add]
      rw [List.take_append_of_le_length (by simp [hy]), List.take_of_length_le (by simp [hy])]) ho
    rw [e1] at h
    exact h
  · exact ⟨hG.os, hG.tape, hG.output, by show w.heap.size ≤ (W.heap ++ os).size; rw [Array.size_append]; omega, fun k hk hne => (hgrow k (by omega)).trans (hG.block k hk hne)⟩
def sortI (l : List Int) : List Int := l.mergeSort fun x y => decide (x ≤ y)
def sort_own.f (l : List Int) : Option (List Int) := if l.length < 4611686018427387904 then some (sortI l) else none
theorem sortI_own.calls {e base : Nat} {ok : Nat → Prop} {w : World} {v : Value} {l : List Int} (h : (Kd.int .i64).R e w base ok v l) (hl : l.length < 4611686018427387904) :
    Calls Try.prog 54 #[v] w fun en w' => en = .returned (.tuple #[]) ∧ (Kd.int .i64).R e w' base ok v (sortI l) ∧ w.grownBy w' v.ownBlock := by
  rcases R_ints h with ⟨rfl, rfl⟩ | ⟨g, cap, cur, rfl, hb, hh, hn, hm, hs, ht, ho⟩
  · refine (Try.slices_Sort_int_none none 0 w).mono ?_
    rintro en w' ⟨rfl, rfl⟩
    have e0 : sortI [] = [] := by simp [sortI]
    exact ⟨rfl, by rw [e0]; exact h, World.grownBy.refl _ _⟩
  · have C := Try.slices_Sort_int g 0 cap l w (ints_holds hh ht) (blk_lt hh) (by omega)
    refine C.mono ?_
    rintro en w' ⟨rfl, q, os, rfl⟩
    have hp := puti_R (ok := ok) q os hb hh hn hm hs ht ho (l.mergeSort fun x y => decide (x ≤ y)) (by rw [List.length_mergeSort])
    exact ⟨rfl, hp.1, hp.2⟩
theorem sort_own.calls (P0_ : Nat → Prop) (u : Value) (l0 r : List Int) (w0 w : World) (hB : Below w0.heap.size w0 w) (ho : Kd.R (Kd.int .i64) 3 w w0.heap.size P0_ u l0) (h : sort_own.f l0 = some r) :
    Calls Try.prog 54 #[u] w fun e w' => e = .returned (.tuple #[]) ∧ Kd.R (Kd.int .i64) 3 w' w0.heap.size P0_ u r ∧ Below w0.heap.size w0 w' ∧ Kept w w' P0_ := by
  unfold sort_own.f at h
  by_cases c : l0.length < 4611686018427387904
  · rw [if_pos c] at h
    cases h
    refine (sortI_own.calls ho c).mono ?_
    rintro e w' ⟨rfl, h1, hg⟩
    exact ⟨rfl, h1, hB.grown hg (by have := hB.size; omega) (fun k hk => Kd.R_base ho k hk), Kept.of_grown hg (Kept.refl w _) (fun k hk => .inl (ho.1 k hk))⟩
  · rw [if_neg c] at h; cases h
def compI (l : List Int) : List Int := Lib.compact l
theorem compactI.calls {e base : Nat} {ok : Nat → Prop} {w : World} {v : Value} {l : List Int} (h : (Kd.int .i64).R e w base ok v l) :
    Calls Try.prog 55 #[v] w fun en w' => ∃ v', en = .returned v' ∧ (Kd.int .i64).R e w' base ok v' (compI l) ∧ w.grownBy w' v.ownBlock ∧ v'.ownBlock = v.ownBlock := by
  rcases R_ints h with ⟨rfl, rfl⟩ | ⟨g, cap, cur, rfl, hb, hh, hn, hm, hs, ht, ho⟩
  · refine (Try.slices_Compact_int_empty none 0 w).mono ?_
    rintro en w' ⟨rfl, rfl⟩
    have e0 : compI [] = [] := List.eq_nil_of_length_eq_zero (Nat.le_zero.1 (Lib.compact_length_le _))
    exact ⟨_, rfl, by rw [e0]; exact h, World.grownBy.refl _ _, rfl⟩
  · have hmx : maxLen = 9223372036854775807 := rfl
    have hcl := Lib.compact_length_le l
    have C := Try.slices_Compact_int g 0 cap l w (ints_holds hh ht) (by omega) (by omega)
    have hp := fun q => puti_R (ok := ok) q #[] hb hh hn hm hs ht ho (Lib.compact l ++ List.replicate (l.length - (Lib.compact l).length) 0) (by rw [List.length_append, List.length_replicate]; omega)
    refine C.mono ?_
    rintro en w' ⟨rfl, q, rfl⟩
    have hq := hp q
    rw [grow_empty] at hq
    refine ⟨_, rfl, ?_, hq.2, rfl⟩
    have ht := Kd.R_take hq.1 (m := (Lib.compact l).length) (by simp)
    rw [List.take_append_of_le_length (by simp), List.take_of_length_le (by simp)] at ht
    exact ht
def compact_own.f (l : List Int) : Option (List Int) := some (compI l)
theorem compact_own.calls (P0_ : Nat → Prop) (u : Value) (l0 r : List Int) (w0 w : World) (hB : Below w0.heap.size w0 w) (ho : Kd.R (Kd.int .i64) 3 w w0.heap.size P0_ u l0) (h : compact_own.f l0 = some r) :
    Calls Try.prog 55 #[u] w fun e w' => ∃ v0_ : Value, e = .returned v0_ ∧ Kd.R (Kd.int .i64) 3 w' w0.heap.size (fun k_ => (P0_ k_ ∨ w.heap.size ≤ k_)) v0_ r ∧ Below w0.heap.size w0 w' ∧ Kept w w' (fun k_ => P0_ k_) := by
  cases h
  refine (compactI.calls ho).mono ?_
  rintro e w' ⟨v', rfl, h1, hg, _⟩
  exact ⟨v', rfl, Kd.R_mono h1 (fun _ hk => .inl hk), hB.grown hg (by have := hB.size; omega) (fun k hk => Kd.R_base ho k hk), Kept.of_grown hg (Kept.refl w _) (fun k hk => .inl (ho.1 k hk))⟩
end Go.Proofs.Ythblifjeecdhcaa.Hand
end
