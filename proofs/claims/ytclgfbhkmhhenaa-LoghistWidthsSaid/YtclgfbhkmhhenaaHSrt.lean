/- The contract of loghist.sorted: the buckets of a map, in ascending order. No condition beyond those in the statements. -/
import Derived.Test.YtclgfbhkmhhenaaHCnt
import Derived.Test.YtclgfbhkmhhenaaIn
import Derived.Test.YtclgfbhkmhhenaaShelf
import Derived.Shelf.SlSortCmp.WholeK
import Derived.Shelf.SlSortCmp.NoneTotal
import Derived.Sort.LotA
import Derived.Lib.RowBridge
import Derived.Maps.RangeWalk
import Derived.Maps.OwnIn
import Derived.Maps.OwnSet
import Derived.Maps.Views
namespace Go.Proofs.Ytclgfbhkmhhenaa.Hand
open Go.RowKit Go.Shelf Go.Maps Go.Proofs.YtclgfbhkmhhenaaW.PrintWords Go.Proofs.YtclgfbhkmhhenaaW.PrintMore Go.Proofs.Ytclgfbhkmhhenaa.Seq Go.Proofs.Ytclgfbhkmhhenaa.A
attribute [local go_sem] Oper.semAt_some
set_option linter.unusedVariables false
set_option linter.unusedSimpArgs false
abbrev DI := DataW (TypeId × Value)
abbrev lk (x : Int) : Lit := .int .i64 x
/-- What a map holds: the numbers of a list of buckets, which ascend. -/
structure MapIs (D : DI) (l : List SB) : Prop where
  tidy : Tidy D
  sorted : l.Pairwise (fun a b => a.f0 < b.f0)
  has : ∀ x : Int, has D (lk x) = l.any (fun y => y.f0 == x)
  get : ∀ y ∈ l, ∀ z, D.atKey (lk y.f0) z = .lit (.int .i64 y.f1)
  size : size D = l.length
theorem keyI : Keyed Try.prog 3 := int_keyed Try.underlying3
theorem infoB : (Try.prog.info? 66).map (fun i => (i.zero, i.size, i.bytes)) = some (some (.agg #[.int .i64 0, .int .i64 0]), 2, 16) := by kernel_rfl
theorem ranges_obj {H : Type} {P : Program} {k : TypeId} {R : Value → Option (DataW H × List MemPlace)} {w : World} {b r n : Nat} {D : DataW H} {left : Lit → Bool} {cnt : Nat} (h : w.ranges P k R b r n D left cnt) : ∃ o : Obj, w.heap[r]? = some o ∧ o.isCells = false := by
  obtain ⟨es, clock, since, seen, c0, _, _, _, _, hr, _⟩ := h
  exact ⟨_, hr, rfl⟩
theorem map_obj {H : Type} {P : Program} {k : TypeId} {R : Value → Option (DataW H × List MemPlace)} {w : World} {b n : Nat} {D : DataW H} (h : w.ownsMap P k R b n D) : ∃ o : Obj, w.heap[b]? = some o ∧ o.isCells = false := by
  obtain ⟨es, clock, h1, _⟩ := h
  exact ⟨_, h1, rfl⟩
theorem R_ne_obj {e base : Nat} {ok : Nat → Prop} {v : Value} {xs : List SB} {w : World} (h : Kd.R kB e w base ok v xs) {r : Nat} (hr : ∃ o : Obj, w.heap[r]? = some o ∧ o.isCells = false) : some r ≠ v.ownBlock := fun e' => by
  obtain ⟨cells, hc⟩ := Kd.R_typed h r e'.symm
  obtain ⟨o, ho, hn⟩ := hr
  rw [hc] at ho
  cases ho; cases hn
/-- What has been collected, and what is still to come. -/
structure Coll (l C : List SB) (left : Lit → Bool) : Prop where
  nodup : C.Pairwise (fun a b => a.f0 ≠ b.f0)
  sub : ∀ y ∈ C, y ∈ l
  rest : ∀ x, left (lk x) = (l.any (fun y => y.f0 == x) && !C.any (fun y => y.f0 == x))
theorem lk_same (a b : Int) : (lk a).sameKey (lk b) = (a == b) := by simp [Lit.sameKey, Bool.beq_eq_decide_eq]
theorem coll_step {D : DI} {l C : List SB} {left : Lit → Bool} (hM : MapIs D l) (h : Coll l C left) {x c : Int} (hl : left (lk x) = true) (hat : ∀ zd, D.atKey (lk x) zd = .lit (.int .i64 c)) : Coll l (C ++ [⟨x, c⟩]) (fun z => left z && !z.sameKey (lk x)) := by
  rw [h.rest] at hl
  simp only [Bool.and_eq_true, Bool.not_eq_true', List.any_eq_true, List.any_eq_false, beq_iff_eq] at hl
  obtain ⟨⟨y, hy, rfl⟩, hC⟩ := hl
  have e : y.f1 = c := by
    have h1 := hM.get y hy (.lit (.int .i64 0))
    rw [hat] at h1
    injection h1 with h1
    injection h1 with _ h1
    exact h1.symm
  subst e
  refine ⟨?_, ?_, fun x => ?_⟩
  · rw [List.pairwise_append]
    exact ⟨h.nodup, List.pairwise_singleton _ _, fun a ha b hb => by rw [List.mem_singleton.1 hb]; exact hC a ha⟩
  · intro z hz
    rcases List.mem_append.1 hz with hz | hz
    · exact h.sub z hz
    · rw [List.mem_singleton.1 hz]; exact hy
  · rw [h.rest, lk_same, List.any_append]
    by_cases hx : x = y.f0
    · subst hx; simp
    · have h1 : (x == y.f0) = false := beq_eq_false_iff_ne.2 hx
      have h2 : (y.f0 == x) = false := beq_eq_false_iff_ne.2 (Ne.symm hx)
      simp [h1, h2]
theorem coll_end {D : DI} {l C : List SB} {left : Lit → Bool} (hM : MapIs D l) (h : Coll l C left) (hl : ∀ kl, left kl = false) : C.Perm l := by
  have hnd : ∀ {m : List SB}, m.Pairwise (fun a b => a.f0 ≠ b.f0) → m.Nodup := fun h => h.imp (fun hab e => hab (by rw [e]))
  rw [List.perm_ext_iff_of_nodup (hnd h.nodup) (hnd (hM.sorted.imp (fun hab => by omega)))]
  intro y
  refine ⟨h.sub y, fun hy => ?_⟩
  have h1 := hl (lk y.f0)
  rw [h.rest, List.any_eq_true.2 ⟨y, hy, by simp⟩, Bool.true_and, Bool.not_eq_false'] at h1
  obtain ⟨z, hz, hzy⟩ := List.any_eq_true.1 h1
  have hzl := h.sub z hz
  have e1 := hM.get z hzl (.lit (.int .i64 0))
  have e2 := hM.get y hy (.lit (.int .i64 0))
  rw [show z.f0 = y.f0 by simpa using hzy] at e1
  rw [e1] at e2
  injection e2 with e2
  injection e2 with _ e2
  have : z = y := by
    obtain ⟨z0, z1⟩ := z
    obtain ⟨y0, y1⟩ := y
    simp only [beq_iff_eq] at hzy e2
    simp [hzy, e2]
  rw [← this]; exact hz
theorem coll_start {D : DI} {l : List SB} (hM : MapIs D l) : Coll l [] (has D) := ⟨List.Pairwise.nil, fun y hy => (by cases hy), fun x => by rw [hM.has]; simp⟩
theorem nodup_len : ∀ (C l : List SB), C.Nodup → (∀ y ∈ C, y ∈ l) → C.length ≤ l.length
  | [], l, _, _ => Nat.zero_le _
  | a :: r, l, hn, hs => by
    letI : DecidableEq SB := fun a b => Classical.propDecidable (a = b)
    obtain ⟨h1, h2⟩ := List.nodup_cons.1 hn
    have ha := hs a (by simp)
    have ih := nodup_len r (l.erase a) h2 (fun y hy => (List.mem_erase_of_ne (fun e => h1 (by rw [← e]; exact hy))).2 (hs y (by simp [hy])))
    rw [List.length_erase_of_mem ha] at ih
    have := List.length_pos_of_mem ha
    simp only [List.length_cons]
    omega
theorem coll_len {D : DI} {l C : List SB} {left : Lit → Bool} (hM : MapIs D l) (h : Coll l C left) : C.length ≤ l.length := by
  have hnd : ∀ {m : List SB}, m.Pairwise (fun a b => a.f0 ≠ b.f0) → m.Nodup := fun h => h.imp (fun hab e => hab (by rw [e]))
  exact nodup_len _ _ (hnd h.nodup) h.sub
/-! The function that compares two buckets. -/
def big : Int := 4611686018427387904
theorem big_is : big = 4611686018427387904 := rfl
def encC (x : SB) : List Value := [.int .i64 (x.f0 % big), .int .i64 x.f1]
def cfB (x y : SB) : Int := x.f0 % big - y.f0 % big
def enB (x : SB) : List Value := [.int .i64 x.f0, .int .i64 x.f1]
instance : Inhabited SB := ⟨z66⟩
theorem enc_small {x : SB} (h0 : 0 ≤ x.f0) (h1 : x.f0 < big) : encC x = enB x := by unfold encC enB; rw [Int.emod_eq_of_lt h0 h1]
theorem encs_small : ∀ l : List SB, (∀ x ∈ l, 0 ≤ x.f0 ∧ x.f0 < big) → l.flatMap encC = l.flatMap enB
  | [], _ => rfl
  | x :: r, h => by rw [List.flatMap_cons, List.flatMap_cons, encs_small r (fun y hy => h y (by simp [hy])), enc_small (h x (by simp)).1 (h x (by simp)).2]
set_option maxHeartbeats 1000000 in
theorem cmp_clo (x y : SB) (W : World) : Calls Try.prog 84 #[.agg (encC x).toArray, .agg (encC y).toArray] W fun e w' => e = .returned (.int .i64 (cfB x y)) ∧ ∃ q os', w' = Sort.grow (W.drewN q) os' := by
  have HW : Aside0 (wrap64 (x.f0 % big - y.f0 % big) = x.f0 % big - y.f0 % big) := ⟨by rw [big_is]; unfold wrap64; omega⟩
  have HC : Aside0 (cfB x y = x.f0 % big - y.f0 % big) := ⟨rfl⟩
  unfold encC
  generalize x.f0 % big = a at *
  generalize y.f0 % big = b at *
  generalize cfB x y = r at *
  go_enter Try.func84, Try.ntmps84
  go_wp2
  go_ret
  exact ⟨by rw [HC.out]; exact congrArg (fun z => Ending.returned (.int .i64 z)) HW.out, 0, _, by rw [Sort.alloc_eq_grow, Sort.alloc_eq_grow, Sort.grow_grow]; rfl⟩
theorem swoB : Sort.SWO (ltOf cfB) where
  irrefl x := by unfold ltOf cfB; simp
  trans x y z h1 h2 := by unfold ltOf cfB at *; simp at *; omega
  ntrans x y z h1 h2 := by unfold ltOf cfB at *; simp at *; omega
/-! Rows of buckets, cell by cell. -/
theorem reps_flat {R : SB → List Value → Prop} (hR : ∀ x cs, R x cs → cs = enB x) : ∀ (l : List SB) (inner : List Value), Reps R 2 l inner → inner = l.flatMap enB
  | [], inner, h => by
    have := h.1
    simp at this
    rw [this]; rfl
  | x :: r, inner, h => by
    have h0 := hR x _ (h.2 0 x rfl)
    rw [Nat.zero_mul, List.drop_zero] at h0
    have hl : inner.length = (r.length + 1) * 2 := by simpa using h.1
    have ih := reps_flat hR r (inner.drop 2) ⟨by rw [List.length_drop, hl]; omega, fun j p hj => by
      have := h.2 (j + 1) p (by simpa using hj)
      rw [List.drop_drop]
      rwa [show (j + 1) * 2 = 2 + j * 2 by omega] at this⟩
    rw [List.flatMap_cons, ← h0, ← ih, List.take_append_drop]
theorem flat_reps {R : SB → List Value → Prop} (hR : ∀ x, R x (enB x)) : ∀ (l : List SB), Reps R 2 l (l.flatMap enB)
  | [] => Reps.none _ _
  | x :: r => Reps.c2 (hR x) (flat_reps hR r)
theorem flat_len : ∀ l : List SB, (l.flatMap enB).length = l.length * 2
  | [] => rfl
  | x :: r => by rw [List.flatMap_cons, List.length_append, flat_len r, List.length_cons]; show 2 + r.length * 2 = _; omega
theorem R_bks {e base : Nat} {ok : Nat → Prop} {w : World} {v : Value} {l : List SB} (h : Kd.R kB e w base ok v l) :
    (v = .slice none 0 0 ∧ l = []) ∨ ∃ g cap cur, v = .slice (some ⟨g, 0, none⟩) l.length cap ∧ base ≤ g ∧ w.heap[g]? = some (.cells cur e (0, 0)) ∧ l.length ≤ cap ∧ cap ≤ maxLen ∧ cur.size = cap * 2 ∧ cur.toList.take (l.length * 2) = l.flatMap enB ∧ ok g := by
  obtain ⟨h0, inner, ho, hr⟩ := h
  have hin : inner = l.flatMap enB := reps_flat (fun x cs hx => k66_openM hx) l inner hr
  subst hin
  rcases ho.2 with ⟨hv, hn⟩ | ⟨g, cap, cur, hv, hb, hh, hn, hm, hs, ht⟩
  · exact .inl ⟨hv, List.eq_nil_of_length_eq_zero hn⟩
  · exact .inr ⟨g, cap, cur, hv, hb, hh, hn, hm, hs, ht, h0 g (by rw [hv]; rfl)⟩
theorem bks_R {e base : Nat} {ok : Nat → Prop} {w : World} {g cap : Nat} {cur : Array Value} {l : List SB} (hb : base ≤ g) (hh : w.heap[g]? = some (.cells cur e (0, 0))) (hn : l.length ≤ cap) (hm : cap ≤ maxLen) (hs : cur.size = cap * 2) (ht : cur.toList.take (l.length * 2) = l.flatMap enB) (ho : ok g) :
    Kd.R kB e w base ok (.slice (some ⟨g, 0, none⟩) l.length cap) l :=
  ⟨fun k hk => by simp only [Value.ownBlock, Option.some.injEq] at hk; subst hk; exact ho, l.flatMap enB, ⟨flat_len l, .inr ⟨g, cap, cur, rfl, hb, hh, hn, hm, hs, ht⟩⟩, flat_reps (fun x => k66_mkM _ _ _ x) l⟩
theorem flatK_list : ∀ (l : List SB), (Sort.flatK encC 2 l.toArray) = (l.flatMap encC).toArray := by
  have key : ∀ (l : List SB) (t : Nat), t < l.length * 2 → (l.flatMap encC)[t]! = (encC (l[t / 2]!))[t % 2]! := by
    intro l
    induction l with
    | nil => intro t h; simp at h
    | cons x r ih =>
      intro t h
      match t with
      | 0 => rfl
      | 1 => rfl
      | t + 2 =>
        have e1 : (t + 2) / 2 = t / 2 + 1 := by omega
        have e2 : (t + 2) % 2 = t % 2 := by omega
        have h' : t < r.length * 2 := by simp at h; omega
        rw [e1, e2]
        show ([Value.int .i64 (x.f0 % big), Value.int .i64 x.f1] ++ r.flatMap encC)[t + 2]! = _
        simpa using ih t h'
  intro l
  have hlen : (l.flatMap encC).length = l.length * 2 := by
    induction l with
    | nil => rfl
    | cons x r ih => rw [List.flatMap_cons, List.length_append, ih, List.length_cons]; show 2 + r.length * 2 = _; omega
  refine Sort.ext_get! (by simp [hlen]) (fun t ht => ?_)
  have ht' : t < l.length * 2 := by simpa using ht
  rw [Sort.get_flatK _ _ _ t (by simpa using ht')]
  have := key l t ht'
  simpa using this.symm
theorem vals_holds {w : World} {g : Nat} {e : Nat} {cur : Array Value} {vs : List Value} (hh : w.heap[g]? = some (.cells cur e (0, 0))) (ht : cur.toList.take vs.length = vs) : Go.Sort.Holds id w g 0 vs.toArray := by
  intro j hj
  have hj' : j < vs.length := by simpa using hj
  refine ⟨?_, blk_frozen hh _⟩
  rw [Nat.zero_add, blk_cell hh j, ← Array.getElem?_toList]
  have h1 : (cur.toList.take vs.length)[j]? = some vs[j] := by rw [ht]; simp [hj']
  rw [List.getElem?_take, if_pos hj'] at h1
  rw [h1]
  simp [hj']
theorem setCells_grownS (w : World) (g o : Nat) (vs : List Value) : w.grownBy (w.setCells g o vs) (some g) := by
  obtain ⟨h1, h2, h3, h4⟩ := setCells_same g vs o w
  exact ⟨h1, h2, h3, by rw [h4]; exact Nat.le_refl _, fun k _ hne => setCells_far vs o k (fun e => hne (by rw [e]))⟩
/-- What a rewrite of the row's cells leaves. -/
theorem putv_R {e base cap : Nat} {ok : Nat → Prop} {w : World} {g : Nat} {cur : Array Value} {l : List SB} (q : Nat) (os : Array Obj) (hb : base ≤ g) (hh : w.heap[g]? = some (.cells cur e (0, 0))) (hn : l.length ≤ cap) (hm : cap ≤ maxLen) (hs : cur.size = cap * 2) (ht : cur.toList.take (l.length * 2) = l.flatMap enB) (ho : ok g) (ys : List SB) (hy : ys.length = l.length) :
    Kd.R kB e (Sort.grow (Sort.putRow id (Sort.ahead w q) g 0 (ys.flatMap enB).toArray) os) base ok (.slice (some ⟨g, 0, none⟩) l.length cap) ys ∧ w.grownBy (Sort.grow (Sort.putRow id (Sort.ahead w q) g 0 (ys.flatMap enB).toArray) os) (some g) := by
  have hfl := flat_len l
  have hfy := flat_len ys
  rw [Go.Lib.putRow_eq_setCells id w g 0 (l.flatMap enB).toArray (ys.flatMap enB) q (vals_holds hh (by rw [hfl]; exact ht)) (by simp only [List.size_toArray]; omega), List.map_id]
  have hhq : (w.drewN q).heap[g]? = some (.cells cur e (0, 0)) := hh
  obtain ⟨cur2, m1, m2, m3⟩ := setCells_row (ys.flatMap enB) 0 (w.drewN q) cur hhq (by omega)
  have hG : w.grownBy ((w.drewN q).setCells g 0 (ys.flatMap enB)) (some g) := by
    obtain ⟨a, b, c, d, f⟩ := setCells_grownS (w.drewN q) g 0 (ys.flatMap enB)
    exact ⟨a, b, c, d, f⟩
  obtain ⟨W, hW⟩ : ∃ W, W = (w.drewN q).setCells g 0 (ys.flatMap enB) := ⟨_, rfl⟩
  rw [← hW] at m1 hG ⊢
  have hsz := hG.size
  have hlt : g < W.heap.size := blk_lt m1
  have hgrow : ∀ k, k < W.heap.size → (Sort.grow W os).heap[k]? = W.heap[k]? := fun k hk => by
    show (W.heap ++ os)[k]? = W.heap[k]?
    rw [Array.getElem?_append_left hk]
  constructor
  · have h := bks_R (l := ys) (ok := ok) hb ((hgrow g hlt).trans m1) (by omega) hm (by omega) (by
      rw [m3]
      simp only [List.take_zero, List.nil_append, Nat.zero_add]
      rw [List.take_append_of_le_length (by omega), List.take_of_length_le (by omega)]) ho
    rw [hy] at h
    exact h
  · exact ⟨hG.os, hG.tape, hG.output, by show w.heap.size ≤ (W.heap ++ os).size; rw [Array.size_append]; omega, fun k hk hne => (hgrow k (by omega)).trans (hG.block k hk hne)⟩
theorem isAggB : ∀ w, (isAgg 66).run Try.prog w = .ok true w := fun _ => by kernel_rfl
theorem sizeB : ∀ w, (Go.sizeOf 66).run Try.prog w = .ok 2 w := fun _ => by kernel_rfl
/-- SortFunc of a row of the call's own: some order of the same buckets, ascending. -/
theorem sort_bks {e base : Nat} {ok : Nat → Prop} {w : World} {v : Value} {l : List SB} (h : Kd.R kB e w base ok v l) (hl : l.length < 4611686018427387904) (hp : ∀ x ∈ l, 0 ≤ x.f0 ∧ x.f0 < big) :
    Calls Try.prog 83 #[v, .func (.func 84) #[] #[]] w fun en w' => en = .returned (.tuple #[]) ∧ w.grownBy w' v.ownBlock ∧ ∃ ys, ys.Perm l ∧ ys.Pairwise (fun a b => a.f0 ≤ b.f0) ∧ Kd.R kB e w' base ok v ys := by
  rcases R_bks h with ⟨rfl, rfl⟩ | ⟨g, cap, cur, rfl, hb, hh, hn, hm, hs, ht, ho⟩
  · refine (AnyF.slices_SortFunc_none Try.sortHB none 0 _ w).mono ?_
    rintro en w' ⟨rfl, rfl⟩
    exact ⟨rfl, World.grownBy.refl _ _, [], .refl _, List.Pairwise.nil, h⟩
  · have eg : ∀ args w, (callFunc 84 args).run Try.prog w = .ok (.enter 84 args) w := enters_of Try.func84 (by kernel_rfl) rfl
    have hH : Sort.HoldsK encC 2 w g 0 l.toArray := by
      unfold Sort.HoldsK
      rw [flatK_list, encs_small l hp]
      exact vals_holds hh (by rw [flat_len]; exact ht)
    have C := AnyQ.slices_SortFunc Try.sortHB 2 isAggB sizeB encC (fun _ => rfl) (fun x v hv => by simp [encC] at hv; rcases hv with rfl | rfl <;> rfl) cfB swoB 84 #[] g 0 cap l.toArray w eg (fun _ _ _ _ x y => cmp_clo x y _) hH (blk_lt hh) (by simpa using hl)
    refine C.mono ?_
    rintro en w' ⟨rfl, d', q, os, hperm, hsort, rfl⟩
    obtain ⟨hsz, _, hpm⟩ := hperm
    have hsz' : d'.toList.length = l.length := by simpa using hsz
    have hpm' : d'.toList.Perm l := by
      have h1 : d'.extract 0 l.toArray.size = d' := by rw [← hsz]; exact Array.extract_size
      rw [h1, Array.extract_size] at hpm
      exact hpm
    have hp' : ∀ x ∈ d'.toList, 0 ≤ x.f0 ∧ x.f0 < big := fun x hx => hp x (hpm'.mem_iff.1 hx)
    have hfl : Sort.flatK encC 2 d' = (d'.toList.flatMap enB).toArray := by
      have := flatK_list d'.toList
      rw [encs_small _ hp'] at this
      exact this
    have hR := putv_R (ok := ok) q os hb hh hn hm hs ht ho d'.toList hsz'
    have hW : sortWorldK encC 2 w g 0 q d' os = Sort.grow (Sort.putRow id (Sort.ahead w q) g 0 (d'.toList.flatMap enB).toArray) os := by
      unfold sortWorldK Sort.putRowK
      rw [hfl]
    rw [hW]
    refine ⟨rfl, hR.2, d'.toList, hpm', ?_, hR.1⟩
    rw [List.pairwise_iff_getElem]
    intro i j hi hj hij
    have hi' : i < d'.size := by simpa using hi
    have hj' : j < d'.size := by simpa using hj
    have h1 := hsort i j (Nat.zero_le _) hij (by rw [← hsz]; exact hj')
    have b1 := hp' _ (List.getElem_mem hi)
    have b2 := hp' _ (List.getElem_mem hj)
    unfold ltOf cfB at h1
    rw [getElem!_pos d' j hj', getElem!_pos d' i hi'] at h1
    simp only [Array.getElem_toList] at b1 b2 ⊢
    have h2 := of_decide_eq_false h1
    rw [Int.emod_eq_of_lt b1.1 b1.2, Int.emod_eq_of_lt b2.1 b2.2] at h2
    omega
theorem sorted_is {l ys : List SB} (hs : l.Pairwise (fun a b => a.f0 < b.f0)) (hp : ys.Perm l) (hy : ys.Pairwise (fun a b => a.f0 ≤ b.f0)) : ys = l := by
  have hnd : l.Pairwise (fun a b => a.f0 ≠ b.f0) := hs.imp (fun h => by omega)
  refine List.Perm.eq_of_pairwise (le := fun a b : SB => a.f0 ≤ b.f0) ?_ hy (hs.imp (fun h => by omega)) hp
  intro a b ha hb h1 h2
  have e : a.f0 = b.f0 := by omega
  have ha' := hp.mem_iff.1 ha
  apply Classical.byContradiction
  intro hne
  obtain ⟨i, hi, rfl⟩ := List.getElem_of_mem ha'
  obtain ⟨j, hj, rfl⟩ := List.getElem_of_mem hb
  rcases Nat.lt_trichotomy i j with h | h | h
  · exact (List.pairwise_iff_getElem.1 hnd i j hi hj h) e
  · subst h; exact hne rfl
  · exact (List.pairwise_iff_getElem.1 hnd j i hj hi h) e.symm
set_option maxRecDepth 100000 in
set_option maxHeartbeats 8000000 in
theorem sorted_calls (mb n : Nat) (D : DI) (l : List SB) (w : World) (hown : w.ownsMap Try.prog 3 (plainElem Try.prog 3) mb n D) (hM : MapIs D l) (hlen : l.length < 1000000) (hp : ∀ x ∈ l, 0 ≤ x.f0 ∧ x.f0 < big) :
    Calls Try.prog 66 #[.map (some mb)] w fun e w' => ∃ v : Value, e = .returned v ∧ Kd.R kB 66 w' w.heap.size (fun _ => True) v l ∧ Below w.heap.size w w' := by
  have HM := Aside0.mk hM
  have HP := Aside0.mk hp
  clear hM hp
  go_enter Try.func66, Try.ntmps66
  go_wp2_with (first | (at_range; refine wpList_range_own _ rfl _ 86 rfl 3 3 keyI Try.underlying86 _ mb n D rfl hown ?_; intro w0 hrg0 hg0 hs0) | go_in)
  go_frame
  have HB0 := Aside0.mk (show Below w.heap.size w w0 from (Below.refl _ _).grown hg0 (Nat.le_refl _) (fun k e => by cases e))
  have HRG := Aside0.mk hrg0
  clear hrg0 hg0 hs0
  go_loopw [3] (fun v3 wr => ∃ (C : List SB) (left : Lit → Bool) (cnt : Nat), wr.ranges Try.prog 3 (plainElem Try.prog 3) mb w.heap.size n D left cnt ∧ Aside0 (Kd.R kB 66 wr w.heap.size (fun _ => True) v3 C) ∧ Aside0 (Below w.heap.size w wr) ∧ Aside0 (Coll l C left))
    (fun _ wr => wr.rangeLeft mb w.heap.size)
  case atStart => exact ⟨[], _, _, HRG.out, ⟨Kd.R_nil _ _ _ _ _⟩, HB0, ⟨coll_start HM.out⟩⟩
  case round =>
    obtain ⟨C, left, cnt, hrg, HR, HB, HC⟩ := hrel
    go_wp2_with (first | (at_next; refine wpList_next_ranges_ii _ rfl _ rfl 3 3 .i64 .i64 keyI Try.underlying3 Try.underlying3 mb w.heap.size n _ _ _ rfl hrg ?_ ?_) | go_in)
    · intro hc0 hl0
      obtain ⟨A, c, rfl, hc, hCC⟩ := Kd.R_reads HR.out
      have hperm := coll_end HM.out HC.out hl0
      have HPM := Aside0.mk hperm
      have hlC := hperm.length_eq
      have HL := Aside0.mk hlC
      clear hperm hlC hc0 hl0 hCC hc
      go_wp2_with fail
      refine (sort_bks HR.out (by have := HL.out; omega) (fun y hy => HP.out y (HPM.out.mem_iff.1 hy))).mono ?_
      rintro e w2 ⟨rfl, hg, ys, hys, hsort, hR2⟩
      obtain rfl : ys = l := sorted_is HM.out.sorted (hys.trans HPM.out) hsort
      have HF := Aside0.mk hR2
      have HG := Aside0.mk (HB.out.grown hg HB.out.size (fun k hk => Kd.R_base HR.out k hk))
      clear hR2 hg hys hsort
      go_wp2
      go_ret
      exact ⟨_, rfl, HF.out, HG.out⟩
    · intro x c w1 cnt1 hwx hwc hlx hat hrg1 hlt hg1 hs1 hen
      have HC1 := Aside0.mk (coll_step HM.out HC.out hlx hat)
      have HL := Aside0.mk (coll_len HM.out HC1.out)
      have hobj := ranges_obj hrg
      have HR1 := Aside0.mk (Kd.R_mono (Kd.R_grown (Kd.R_bound HR.out) hg1 (fun k hk e => by
        obtain ⟨_, _, _, q, _, cells, hcc⟩ := hk
        obtain ⟨o, ho, hn⟩ := hobj
        cases e
        rw [hcc] at ho
        cases ho; cases hn)) (fun _ _ => trivial))
      have HB1 := Aside0.mk (HB.out.grown hg1 HB.out.size (fun k e => by cases e; exact Nat.le_refl _))
      have HMS := Aside0.mk (show w1.rangeLeft mb w.heap.size < wr.rangeLeft mb w.heap.size by rw [hrg1.left_eq, hrg.left_eq]; exact hlt)
      have HRG1 := Aside0.mk hrg1
      clear hwx hwc hlx hat hrg1 hlt hg1 hs1 hobj HR HB HC hrg
      go_wp2_with (first | ((with_reducible refine gate_builtin (b := .append) (xs := #[.tmp 13, .tmp 17]) rfl ?_); at_builtin; refine Kd.R_append kB (w0 := w) w.heap.size rfl (.tmp 13) (.tmp 17) 27 66 (.agg #[(.int .i64 0), (.int .i64 0)]) 16 rfl Try.underlying27 infoB rfl (by decide) (by omega) u3 C ⟨x, c⟩ [.int .i64 x, .int .i64 c] (fun _ => True) (fun _ => False) rfl rfl (k66_mkM _ _ _ _) (fun _ hk => hk.elim) (fun _ _ => trivial) HR1.out HB1.out (Below.size HB1.out) (by have := HL.out; simp only [List.length_append, List.length_singleton] at this; omega) ?_; intro v1 w2 ho hb hg hat; have HO := Aside0.mk ho; have HB2 := Aside0.mk hb; have HG := Aside0.mk hg; clear ho hb hg hat))
      have hrg2 := HRG1.out.kept HG.out (R_ne_obj HR1.out (map_obj HRG1.out.owns)) (R_ne_obj HR1.out (ranges_obj HRG1.out))
      go_roundw
      case rel => exact ⟨C ++ [⟨x, c⟩], _, cnt1, hrg2, HO, HB2, HC1⟩
      case measure => have h1 := HMS.out; rw [HRG1.out.left_eq] at h1; rw [hrg2.left_eq]; exact h1
end Go.Proofs.Ytclgfbhkmhhenaa.Hand
