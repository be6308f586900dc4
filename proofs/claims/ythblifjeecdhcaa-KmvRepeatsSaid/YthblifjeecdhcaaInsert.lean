/- The contract of slices.Insert with one number, at a row of the call's own. No condition beyond those in the statements. -/
import Derived.Shelf.Spec.SlicesInsert
import Derived.Shelf.Spec.SlicesInsertGrow
import Derived.Test.YthblifjeecdhcaaProg
import Derived.RangeFuncRecord
import Derived.Test.YthblifjeecdhcaaWMore
namespace Go.Proofs.Ythblifjeecdhcaa.Hand
open Go.RowKit Go.Shelf Go.Proofs.YthblifjeecdhcaaW.PrintWords Go.Proofs.YthblifjeecdhcaaW.PrintMore
set_option linter.unusedVariables false
def iren : Ren := ⟨fun | 21 => 57 | 27 => 68 | 28 => 69 | 35 => 83 | 39 => 90 | n => n,
  fun | 0 => 0 | 3 => 3 | 4 => 4 | 22 => 22 | n => n, fun n => n⟩
theorem ilay : Lays2.n21 Try.prog iren := {
  mixed := by kernel_rfl
  f21 := Try.func57.trans (congrArg some (by kernel_rfl))
  f27 := Try.func68.trans (congrArg some (by kernel_rfl))
  f28 := Try.func69.trans (congrArg some (by kernel_rfl))
  f35 := Try.func83.trans (congrArg some (by kernel_rfl))
  f39 := Try.func90.trans (congrArg some (by kernel_rfl))
  t0 := Try.underlying0
  a0 := Try.isAgg0
  z0 := Try.sizeOf0
  v0 := Try.zeroValue0
  t3 := Try.underlying3
  a3 := Try.isAgg3
  z3 := Try.sizeOf3
  v3 := Try.zeroValue3
  t4 := Try.underlying4
  a4 := Try.isAgg4
  z4 := Try.sizeOf4
  v4 := Try.zeroValue4
  t22 := Try.underlying22
  a22 := Try.isAgg22
  z22 := Try.sizeOf22
  v22 := Try.zeroValue22
  i3 := by kernel_rfl }
theorem setCells_grown (w : World) (g o : Nat) (vs : List Value) : w.grownBy (w.setCells g o vs) (some g) := by
  obtain ⟨h1, h2, h3, h4⟩ := setCells_same g vs o w
  exact ⟨h1, h2, h3, by rw [h4]; exact Nat.le_refl _, fun k _ hne => setCells_far vs o k (fun e => hne (by rw [e]))⟩
theorem alloc_grown (w : World) (o : Obj) (row : Option Nat) : w.grownBy (w.alloc o) row := World.grownBy_alloc w o row
theorem grown_up {a b : World} {row : Option Nat} (h : a.grownBy b none) : a.grownBy b row := ⟨h.os, h.tape, h.output, h.size, fun k hk _ => h.block k hk (by simp)⟩
theorem grown_drew {w X : World} {row : Option Nat} (h : w.drew.grownBy X row) : w.grownBy X row := ⟨h.os, h.tape, h.output, h.size, h.block⟩
/-- What a row is behind an insert. -/
def Inserted (base : Nat) (v : Value) (w : World) (ys : List Value) (e : Ending) (w' : World) : Prop := ∃ v', e = .returned v' ∧ w'.ownsRow base 3 1 v' ys.length ys ∧ w.grownBy w' v.ownBlock ∧ (v'.ownBlock = v.ownBlock ∨ ∃ b, v'.ownBlock = some b ∧ w.heap.size ≤ b)
theorem one_ints (l : List Int) : ∀ v ∈ nums .i64 l, v.oneCell' = true := fun v hv => by
  obtain ⟨x, _, rfl⟩ := List.mem_map.1 hv
  rfl
theorem own_at {base e n : Nat} {v : Value} {xs : List Value} {w : World} (h : w.ownsRow base e 1 v n xs) : xs.length = n ∧ ((v = .slice none 0 0 ∧ n = 0 ∧ xs = []) ∨ ∃ g cap cur, v = .slice (some ⟨g, 0, none⟩) n cap ∧ base ≤ g ∧ w.heap[g]? = some (.cells cur e (0, 0)) ∧ n ≤ cap ∧ cap ≤ maxLen ∧ cur.size = cap ∧ cur.toList.take n = xs) := by
  obtain ⟨h1, h2⟩ := h
  rw [Nat.mul_one] at h1
  refine ⟨h1, ?_⟩
  rcases h2 with ⟨rfl, h3⟩ | ⟨g, cap, cur, a1, a2, a3, a4, a5, a6, a7⟩
  · exact .inl ⟨rfl, h3, List.eq_nil_of_length_eq_zero (by omega)⟩
  · exact .inr ⟨g, cap, cur, a1, a2, a3, a4, a5, by omega, by rw [Nat.mul_one] at a7; exact a7⟩
theorem own_mk {base e n g cap : Nat} {cur : Array Value} {xs : List Value} {w : World} (hn : xs.length = n) (hb : base ≤ g) (hg : w.heap[g]? = some (.cells cur e (0, 0))) (h1 : n ≤ cap) (h2 : cap ≤ maxLen) (h3 : cur.size = cap) (h4 : cur.toList.take n = xs) : w.ownsRow base e 1 (.slice (some ⟨g, 0, none⟩) n cap) n xs :=
  ⟨by omega, .inr ⟨g, cap, cur, rfl, hb, hg, h1, h2, by omega, by rw [Nat.mul_one]; exact h4⟩⟩
theorem cells_of {w : World} {g e : Nat} {cur : Array Value} (h : w.heap[g]? = some (.cells cur e (0, 0))) {cs : List Value} {n : Nat} (ht : cur.toList.take n = cs) (j : Nat) (v : Value) (hj : cs[j]? = some v) : w.cell? ⟨g, 0 + j, none⟩ = some v := by
  rw [Nat.zero_add, blk_cell h j]
  subst ht
  rw [List.getElem?_take] at hj
  split at hj
  · simpa using hj
  · cases hj
theorem list_shift (cur : List Value) (cs : List Value) (n i : Nat) (x : Value) (hi : i < n) (hc : cur.take n = cs) (hn : n + 1 ≤ cur.length) (hcl : cs.length = n) :
    (((cur.take (i + 1) ++ cs.drop i ++ cur.drop (i + 1 + (cs.drop i).length)).take i ++ [x] ++ (cur.take (i + 1) ++ cs.drop i ++ cur.drop (i + 1 + (cs.drop i).length)).drop (i + 1)).take (n + 1)) = cs.take i ++ x :: cs.drop i := by
  have e1 : (cur.take (i + 1) ++ cs.drop i ++ cur.drop (i + 1 + (cs.drop i).length)).take i = cs.take i := by
    rw [List.append_assoc, List.take_append_of_le_length (by rw [List.length_take]; omega), List.take_take, ← hc, List.take_take]
    congr 1; omega
  have e2 : (cur.take (i + 1) ++ cs.drop i ++ cur.drop (i + 1 + (cs.drop i).length)).drop (i + 1) = cs.drop i ++ cur.drop (i + 1 + (cs.drop i).length) := by
    rw [List.append_assoc, List.drop_append_of_le_length (by rw [List.length_take]; omega), List.drop_eq_nil_of_le (by rw [List.length_take]; omega), List.nil_append]
  rw [e1, e2, ← List.append_assoc (cs.take i ++ [x])]
  rw [List.take_append_of_le_length (by simp [List.length_take, List.length_drop]; omega)]
  rw [List.take_of_length_le (by simp [List.length_take, List.length_drop]; omega), List.append_assoc]
  rfl
set_option maxRecDepth 100000 in
set_option maxHeartbeats 1000000 in
theorem insert_own (base : Nat) (v : Value) (l : List Int) (i : Nat) (x : Int) (vb : Nat) (w : World) (hown : w.ownsRow base 3 1 v l.length (nums .i64 l)) (hi : i ≤ l.length) (hlen : l.length + 1 < 17592186044416) (hv : w.heap[vb]? = some (.cells #[.int .i64 x] 3 (0, 0))) (hne : v.ownBlock ≠ some vb) (hbase : base ≤ w.heap.size) :
    Calls Try.prog 57 #[v, .int .i64 i, .slice (some ⟨vb, 0, none⟩) 1 1] w (Inserted base v w ((nums .i64 l).take i ++ .int .i64 x :: (nums .i64 l).drop i)) := by
  have h1v : ∀ u ∈ [Value.int .i64 x], u.oneCell' = true := fun u hu => by obtain rfl := List.mem_singleton.1 hu; rfl
  have hvs : ∀ (j : Nat) (u : Value), [Value.int .i64 x][j]? = some u → w.cell? ⟨vb, 0 + j, none⟩ = some u := fun j u hj => cells_of hv (n := 1) rfl j u hj
  have hmx : maxLen = 9223372036854775807 := rfl
  have h1c := one_ints l
  have hcl : (nums .i64 l).length = l.length := by simp [nums]
  obtain ⟨_, h | ⟨g, cap, cur, rfl, hg0, hg, hn, hm, hsz, ht⟩⟩ := own_at hown
  · obtain ⟨rfl, hl, hnil⟩ := h
    obtain rfl : l = [] := List.eq_nil_of_length_eq_zero hl
    obtain rfl : i = 0 := by simpa using hi
    have C := Any2.slices_Insert_int_end_grow ilay none 0 0 vb 0 1 1 [] [.int .i64 x] w (by omega) (by omega) (by omega) (by omega) rfl rfl (fun _ => rfl) (fun a ha => by cases ha) hvs h1v
    refine C.mono ?_
    rintro e w' ⟨rfl, rfl⟩
    refine ⟨_, rfl, ?_, ⟨rfl, rfl, rfl, by simp, fun k hk _ => Below.heap_alloc _ _ _ hk⟩, .inr ⟨_, rfl, Nat.le_refl _⟩⟩
    have hge : 1 ≤ grownCap w 1 0 (iren.t 3) := grownCap_ge w 1 0 (iren.t 3)
    refine own_mk (by simp [nums]) hbase (World.alloc_heap_new w.drew _) hge (grownCap_le_maxLen w (0 + 1) 0 (iren.t 3) (by rw [hmx]; omega)) (by simp [size_zeroCells, Value.cells]; omega) (by simp [nums])
  · have hcells := cells_of hg ht
    have hspn : ∀ j, j < cap → (w.cell? ⟨g, 0 + j, none⟩).isSome = true := fun j hj => by
      have hj' : j < cur.size := by omega
      rw [Nat.zero_add, blk_cell hg j]
      simp [hj']
    have hfz : ∀ j, w.frozen? ⟨g, j, none⟩ = false := fun j => blk_frozen hg j
    have hgv : vb ≠ g := fun e => hne (by rw [e]; rfl)
    have hcur : l.length ≤ cur.toList.length := by have := Array.length_toList (xs := cur); omega
    by_cases hroom : l.length + 1 ≤ cap
    · have hcur1 : l.length + 1 ≤ cur.toList.length := by have := Array.length_toList (xs := cur); omega
      by_cases hlt : i < l.length
      · have C := Any2.slices_Insert_int_shift ilay g 0 l.length cap i vb 0 1 1 (nums .i64 l) [.int .i64 x] w hlt (by omega) hroom (by omega) hgv hcl rfl hcells (fun j hj => hspn j (by omega)) (fun j _ => hfz _) hvs h1c h1v 3 3 1 cap (by simp [World.shape?, hv]) (by simp [World.shape?, hg, hsz]) (by omega) (blk_frozen hv 0) (blk_frozen hv 1)
        refine C.mono ?_
        rintro e w' ⟨rfl, rfl⟩
        obtain ⟨cur1, k1, k2, k3⟩ := setCells_row ((nums .i64 l).drop i) (0 + (i + 1)) w.drew cur hg (by rw [List.length_drop, hcl]; omega)
        obtain ⟨cur2, m1, m2, m3⟩ := setCells_row [.int .i64 x] (0 + i) _ cur1 k1 (by simp; omega)
        have G : w.grownBy ((w.drew.setCells g (0 + (i + 1)) ((nums .i64 l).drop i)).setCells g (0 + i) [.int .i64 x]) (some g) := World.grownBy.trans (grown_drew (setCells_grown w.drew g _ _)) (setCells_grown _ g _ _)
        refine ⟨_, rfl, ?_, G, .inl rfl⟩
        have hys : ((nums .i64 l).take i ++ .int .i64 x :: (nums .i64 l).drop i).length = l.length + 1 := by simp [nums]; omega
        rw [hys]
        refine own_mk hys hg0 m1 hroom hm (by omega) ?_
        rw [m3, k3]
        simp only [Nat.zero_add, List.length_singleton]
        exact list_shift cur.toList (nums .i64 l) l.length i _ hlt ht hcur1 hcl
      · obtain rfl : i = l.length := by omega
        have C := Any2.slices_Insert_int_end_room ilay g 0 l.length cap vb 0 1 1 [.int .i64 x] w (by omega) hroom (by omega) rfl (fun j hj => by rw [Nat.add_assoc]; exact hspn _ (by omega)) (fun j _ => hfz _) hvs h1v
        refine C.mono ?_
        rintro e w' ⟨rfl, rfl⟩
        obtain ⟨cur2, m1, m2, m3⟩ := setCells_row [.int .i64 x] (0 + l.length) w cur hg (by simp; omega)
        refine ⟨_, rfl, ?_, setCells_grown w g _ _, .inl rfl⟩
        have hys : ((nums .i64 l).take l.length ++ .int .i64 x :: (nums .i64 l).drop l.length).length = l.length + 1 := by simp [nums]
        rw [hys]
        refine own_mk hys hg0 m1 hroom hm (by omega) ?_
        rw [m3, Nat.zero_add, ht, List.take_of_length_le (Nat.le_of_eq hcl), List.drop_eq_nil_of_le (Nat.le_of_eq hcl)]
        rw [List.take_append_of_le_length (by simp [nums]), List.take_of_length_le (by simp [nums])]
    · by_cases hlt : i < l.length
      · have C := Any2.slices_Insert_int_grow ilay g 0 l.length cap i vb 0 1 1 (nums .i64 l) [.int .i64 x] w hlt (by omega) hn (by omega) (by omega) hcl rfl hcells hvs h1c h1v
        refine C.mono ?_
        rintro e w' ⟨rfl, rfl⟩
        have hge := grownCap_ge w (l.length + 1) cap (iren.t 3)
        have hle := grownCap_le_maxLen w (l.length + 1) cap (iren.t 3) (by rw [hmx]; omega)
        generalize grownCap w (l.length + 1) cap (iren.t 3) = gc at *
        have hsize : (((nums .i64 l).take i).toArray ++ Builtin.zeroCells (Value.int .i64 0).cells (l.length + 1 - i) ++ Builtin.zeroCells (Value.int .i64 0).cells (gc - (l.length + 1))).size = gc := by
          simp [size_zeroCells, Value.cells, nums]; omega
        have hA := World.alloc_heap_new w (.cells (((nums .i64 l).take i).toArray ++ Builtin.zeroCells (Value.int .i64 0).cells (l.length + 1 - i) ++ Builtin.zeroCells (Value.int .i64 0).cells (gc - (l.length + 1))) (iren.t 3))
        have hG0 : w.grownBy (w.alloc (.cells (((nums .i64 l).take i).toArray ++ Builtin.zeroCells (Value.int .i64 0).cells (l.length + 1 - i) ++ Builtin.zeroCells (Value.int .i64 0).cells (gc - (l.length + 1))) (iren.t 3))).drew (none : Option Nat) := ⟨rfl, rfl, rfl, by simp, fun k hk _ => Below.heap_alloc _ _ _ hk⟩
        have hT : ((((nums .i64 l).take i).toArray ++ Builtin.zeroCells (Value.int .i64 0).cells (l.length + 1 - i) ++ Builtin.zeroCells (Value.int .i64 0).cells (gc - (l.length + 1))).toList).take i = (nums .i64 l).take i := by
          rw [Array.toList_append, Array.toList_append, List.append_assoc, List.take_append_of_le_length (by simp [nums]; omega)]
          exact List.take_of_length_le (by simp; omega)
        generalize (((nums .i64 l).take i).toArray ++ Builtin.zeroCells (Value.int .i64 0).cells (l.length + 1 - i) ++ Builtin.zeroCells (Value.int .i64 0).cells (gc - (l.length + 1))) = cur0 at *
        obtain ⟨cur1, k1, k2, k3⟩ := setCells_row [.int .i64 x] i (w.alloc (.cells cur0 (iren.t 3))).drew cur0 hA (by simp; omega)
        obtain ⟨cur2, m1, m2, m3⟩ := setCells_row ((nums .i64 l).drop i) (i + 1) (((w.alloc (.cells cur0 (iren.t 3))).drew.setCells w.heap.size i [.int .i64 x]).drew) cur1 k1 (by rw [List.length_drop, hcl]; omega)
        have G : w.grownBy ((((w.alloc (.cells cur0 (iren.t 3))).drew.setCells w.heap.size i [.int .i64 x]).drew).setCells w.heap.size (i + 1) ((nums .i64 l).drop i)) (some g) := by
          obtain ⟨s1, s2, s3, s4⟩ := setCells_same w.heap.size [.int .i64 x] i (w.alloc (.cells cur0 (iren.t 3))).drew
          obtain ⟨r1, r2, r3, r4⟩ := setCells_same w.heap.size ((nums .i64 l).drop i) (i + 1) (((w.alloc (.cells cur0 (iren.t 3))).drew.setCells w.heap.size i [.int .i64 x]).drew)
          refine ⟨r1.trans s1, r2.trans s2, r3.trans s3, ?_, fun k hk _ => ?_⟩
          · rw [r4]; exact Nat.le_trans hG0.size (Nat.le_of_eq s4.symm)
          · refine (setCells_far _ _ k (by omega)).trans ?_
            exact (setCells_far (w := (w.alloc (.cells cur0 (iren.t 3))).drew) _ _ k (by omega)).trans (hG0.block k hk (by simp))
        refine ⟨_, rfl, ?_, G, .inr ⟨_, rfl, Nat.le_refl _⟩⟩
        have hys : ((nums .i64 l).take i ++ .int .i64 x :: (nums .i64 l).drop i).length = l.length + 1 := by simp [nums]; omega
        rw [hys]
        refine own_mk hys hbase m1 hge hle (by omega) ?_
        rw [m3, k3]
        have ec : cur0.toList.length = gc := by rw [Array.length_toList]; exact hsize
        have e1 : (cur0.toList.take i ++ [Value.int .i64 x] ++ cur0.toList.drop (i + [Value.int .i64 x].length)).take (i + 1) = (nums .i64 l).take i ++ [.int .i64 x] := by
          rw [List.take_append_of_le_length (by simp; omega), List.take_of_length_le (by simp; omega), hT]
        rw [e1, List.append_assoc, List.append_assoc, ← List.append_assoc [Value.int .i64 x], ← List.append_assoc]
        rw [List.take_append_of_le_length (by simp [nums]; omega), List.take_of_length_le (by simp [nums]; omega)]
        rfl
      · obtain rfl : i = l.length := by omega
        have C := Any2.slices_Insert_int_end_grow ilay (some ⟨g, 0, none⟩) l.length cap vb 0 1 1 (nums .i64 l) [.int .i64 x] w (by omega) hn (by omega) (by omega) hcl rfl (fun h => by cases h) (fun a ha j u hj => by cases ha; have := hcells j u hj; rw [Nat.zero_add] at this; rw [show (⟨g, 0, none⟩ : Addr).add j = ⟨g, j, none⟩ from by simp [Addr.add, eq_comm]]; exact this) hvs h1v
        refine C.mono ?_
        rintro e w' ⟨rfl, rfl⟩
        have hge := grownCap_ge w (l.length + 1) cap (iren.t 3)
        have hle := grownCap_le_maxLen w (l.length + 1) cap (iren.t 3) (by rw [hmx]; omega)
        refine ⟨_, rfl, ?_, ⟨rfl, rfl, rfl, by simp, fun k hk _ => Below.heap_alloc _ _ _ hk⟩, .inr ⟨_, rfl, Nat.le_refl _⟩⟩
        have hys : ((nums .i64 l).take l.length ++ .int .i64 x :: (nums .i64 l).drop l.length).length = l.length + 1 := by simp [nums]
        rw [hys]
        refine own_mk hys hbase (World.alloc_heap_new w.drew _) hge hle (by simp [size_zeroCells, Value.cells, nums]; omega) ?_
        rw [List.take_of_length_le (Nat.le_of_eq hcl), List.drop_eq_nil_of_le (Nat.le_of_eq hcl), Array.toList_append]
        rw [List.take_append_of_le_length (by simp [nums]), List.take_of_length_le (by simp [nums])]
end Go.Proofs.Ythblifjeecdhcaa.Hand
