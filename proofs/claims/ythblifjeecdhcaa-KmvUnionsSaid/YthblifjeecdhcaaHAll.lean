/- Several texts of this session in one. No condition beyond those in the statements. -/
import Derived.Test.YthblifjeecdhcaaWMore
import Derived.OwnWalk
import Derived.Test.YthblifjeecdhcaaProg
import Derived.WalkKit
import Derived.WalkSpells
import Derived.Shelf.Spec.SlicesInsert
import Derived.Shelf.Spec.SlicesInsertGrow
import Derived.RangeFuncRecord
import Derived.Test.YthblifjeecdhcaaAA
import Derived.Test.YthblifjeecdhcaaWKept
section
namespace Go.Proofs.Ythblifjeecdhcaa.Hand
open Go Go.RowKit Go.Proofs.YthblifjeecdhcaaW.PrintWords Go.Proofs.YthblifjeecdhcaaW.PrintMore
section
variable {α : Type} {P : Program} {ops : Array Oper} {rest : List Oper} {o : Oper} {a : Act} {Q : Exit → Act → World → Prop}
/-- 'make([]T, 0, n)': an empty row of the call's own. -/
theorem R_make0 (d : Kd α) {w0 W : World} (base e : Nat) (hgd : o.guard = none) (t : TypeId) (x y : Operand) (ho : o.op = .makeSlice t x y) (n : Int) (hx : a.eval x = .int .i64 0) (hy : a.eval y = .int .i64 n)
    (ht : P.underlying t = some (.slice e)) (z : Value) (bytes : Nat) (hinfo : (P.info? e).map (fun i => (i.zero, i.size, i.bytes)) = some (some z, d.sz, bytes))
    {ok : Nat → Prop} (hfresh : ok W.heap.size) (h0 : 0 ≤ n) (hl : n.toNat * bytes ≤ 281474976710656) (hm : n ≤ 281474976710656) (HB : Below base w0 W) (hbase : base ≤ W.heap.size)
    (h : ∀ v1 w1, d.R e w1 base ok v1 [] → Below base w0 w1 → W.grownBy w1 none → (∃ b, v1.ownBlock = some b ∧ W.heap.size ≤ b) → wpList P ops Q rest (a.put o.dst v1) w1) : wpList P ops Q (o :: rest) a W := by
  obtain ⟨m, rfl⟩ := Int.eq_ofNat_of_zero_le h0
  simp only [Int.toNat_natCast] at hl
  obtain ⟨i0, hi, hz0, hz1, hz2⟩ := info_parts hinfo
  refine wpList_make_own W hgd x y t ho base e i0 z d.sz ht hi hz0 hz1 .i64 .i64 (m : Int) m hx hy rfl (by rw [hz2, Nat.mul_comm]; exact hl) (by unfold maxLen; omega) hbase ?_
  intro w1 hown hg
  refine h _ w1 ⟨fun k hk => ?_, [], ?_, Reps.none _ _⟩ (HB.grown hg hbase (fun k e => by cases e)) hg ⟨W.heap.size, rfl, Nat.le_refl _⟩
  · simp only [Value.ownBlock, Option.some.injEq] at hk
    subst hk
    exact hfresh
  · exact hown
end
/-! Short names for printed texts that would be too long for a file. -/
theorem aS {p : Prop} (h : p) : Aside0 p := ⟨h⟩
section
variable {α : Type} {d : Kd α} {e : Nat} {w W : World} {base : Nat} {ok : Nat → Prop} {v : Value} {xs : List α}
theorem rA (h : Kd.R d e w base ok v xs) (o : Obj) : Kd.R d e (w.alloc o) base ok v xs := Kd.R_alloc h o
theorem rN (h : Kd.R d e w base ok v xs) (m : Nat) : Kd.R d e (w.drewN m) base ok v xs := Kd.R_drewN h m
theorem rD (h : Kd.R d e w base ok v xs) : Kd.R d e w.drew base ok v xs := Kd.R_drew h
theorem vA (h : Kd.V d e W base ok v xs) (o : Obj) : Kd.V d e (W.alloc o) base ok v xs := Kd.V_alloc h o
theorem vN (h : Kd.V d e W base ok v xs) (m : Nat) : Kd.V d e (W.drewN m) base ok v xs := Kd.V_drewN h m
theorem vD (h : Kd.V d e W base ok v xs) : Kd.V d e W.drew base ok v xs := Kd.V_drew h
theorem VR1 {base' : Nat} {A B R : Nat → Prop} (h : Kd.R d e W base (fun k => B k ∧ R k) v xs) : Kd.V d e W base' (fun k => (A k ∨ B k) ∧ R k) v xs := Kd.V_mono (Kd.R_V h) (fun _ hk => ⟨.inr hk.1, hk.2⟩)
theorem VR0 {base' : Nat} {A B : Nat → Prop} (h : Kd.R d e W base (fun k => B k) v xs) : Kd.V d e W base' (fun k => A k ∨ B k) v xs := Kd.V_mono (Kd.R_V h) (fun _ hk => .inr hk)
theorem bA (h : Below w.heap.size w W) (o : Obj) : Below w.heap.size w (W.alloc o) := below_alloc h o
theorem bN {B : Nat} (h : Below B w W) (n : Nat) : Below B w (W.drewN n) := pw_below_drewN h n
theorem bD (h : Below base w W) : Below base w W.drew := below_drew1 h
end
end Go.Proofs.Ythblifjeecdhcaa.Hand
end
section
namespace Go.Proofs.Ythblifjeecdhcaa.Hand
open Go.RowKit Go.Proofs.YthblifjeecdhcaaW.PrintWords Go.Proofs.YthblifjeecdhcaaW.PrintMore
set_option linter.unusedVariables false
set_option linter.unusedSimpArgs false
theorem infoC : (Try.prog.info? 3).map (fun i => (i.zero, i.size, i.bytes)) = some (some (.int .i64 0), 1, 8) := by kernel_rfl
def clone_int.f (l0 : List Int) : Option (List Int) := if l0.length < 8796093022208 then some l0 else none
set_option maxRecDepth 100000 in
set_option maxHeartbeats 2000000 in
theorem clone_int.calls (A0 : Option Addr) (c0 : Nat) (l0 r : List Int) (w : World) (hr0 : Kd.C (Kd.int .i64) w A0 l0.length l0) (hc0 : l0.length ≤ c0) (h : clone_int.f l0 = some r) :
    Calls Try.prog 36 #[.slice A0 l0.length c0] w fun e w' => ∃ v0_ : Value, e = .returned v0_ ∧ Kd.R (Kd.int .i64) 3 w' w.heap.size (fun _ => True) v0_ r ∧ Below w.heap.size w w' := by
  unfold clone_int.f at h
  split at h
  case isFalse => cases h
  rename_i hlen
  cases h
  cases A0 with
  | none =>
    have hl : l0 = [] := by
      cases l0 with
      | nil => rfl
      | cons x l =>
        obtain ⟨_, _, h3⟩ := hr0
        obtain ⟨ad, h4, _⟩ := h3 (by simp)
        cases h4
    subst hl
    have hnil := fun w => Lib.run_eql_slice_nil (P := Try.prog) w 22 3 none 0 c0 0 0 Try.underlying22
    go_enter Try.func36, Try.ntmps36
    go_wp2
    go_ret
    exact ⟨_, rfl, Kd.R_nil _ _ _ _ _, Below.refl _ _⟩
  | some ad =>
    have hnil := fun w => Lib.run_eql_slice_nil (P := Try.prog) w 22 3 (some ad) l0.length c0 0 0 Try.underlying22
    simp only [Option.isNone_some] at hnil
    have HR := Aside0.mk hr0
    have HL := Aside0.mk hlen
    clear hr0 hlen
    go_enter Try.func36, Try.ntmps36
    go_wp2_with (first | ((with_reducible refine gate_dst (N := 5) rfl ?_); refine Kd.R_lit (Kd.int .i64) _ 3 ?hg (N := 5) ?hd (xs := ([] : List (Int))) (inner := []) (ok := fun _ => True) (okp := fun _ => True) ?hr ?hp (fun _ hk => hk) trivial (Below.refl _ _) (Nat.le_refl _) (by simp) ?_; (case hd => rfl); (case hg => rfl); (case hr => first | (go_simp; done) | (go_simp; rfl)); (case hp => exact (Reps.none _ _)); intro v1 w1 ho1 hb1 hg_ hnew_; clear hg_ hnew_; have HB := Aside0.mk hb1; have HO := Aside0.mk ho1; clear hb1 ho1) | ((with_reducible refine gate_builtin (b := .append) (xs := #[.tmp 5, .tmp 6]) rfl ?_); at_builtin; refine Kd.R_append_rows (Kd.int .i64) (w0 := w) w.heap.size rfl (.tmp 5) (.tmp 6) 22 3 (.int .i64 0) 8 rfl Try.underlying22 infoC rfl (by decide) (by omega) v1 [] l0 _ _ _ (fun k_ => True) (fun _ => False) rfl rfl ?aO ?aR (fun _ _ h => h) (fun _ h => h.elim) ?aF ?aB ?aS ?aL ?_; (case aR => exact Kd.C_below HR.out HB.out); (case aB => exact HB.out); (case aF => exact (fun _ _ => trivial)); (case aO => exact Kd.R_mono HO.out (fun _ _ => trivial)); (case aS => exact HB.out.size); (case aL => have := HL.out; simp; omega); intro v2 w2 ho hb hg hat; simp only [List.nil_append] at ho; have HO2 := Aside0.mk ho; have HB2 := Aside0.mk hb; clear ho hb hg hat))
    go_ret
    exact ⟨_, rfl, HO2.out, HB2.out⟩
end Go.Proofs.Ythblifjeecdhcaa.Hand
end
section
namespace Go.Proofs.Ythblifjeecdhcaa.Hand
open Go.RowKit Go.Shelf Go.Proofs.YthblifjeecdhcaaW.PrintWords Go.Proofs.YthblifjeecdhcaaW.PrintMore
set_option linter.unusedVariables false
def iren : Ren := ⟨fun | 21 => 57 | 27 => 68 | 28 => 69 | 35 => 83 | 39 => 90 | n => n,
  fun | 0 => 0 | 3 => 3 | 4 => 4 | 22 => 22 | n => n, fun n => n⟩
theorem ilay : Lays2.n21 Try.prog iren := {
  mixed := by kernel_rfl
  f21 := Try.func57.trans (congrArg some (by kernel_rfl))
  f27 := Try.func68.trans (congrArg some (by kernel_rfl))
  f28 := Try.func69.trans (congrArg some (by kernel_rfl))
  f35 := Try.func83.trans (congrArg some (by kernel_rfl))
  f39 := Try.func90.trans (congrArg some (by kernel_rfl))
  t0 := Try.underlying0
  a0 := Try.isAgg0
  z0 := Try.sizeOf0
  v0 := Try.zeroValue0
  t3 := Try.underlying3
  a3 := Try.isAgg3
  z3 := Try.sizeOf3
  v3 := Try.zeroValue3
  t4 := Try.underlying4
  a4 := Try.isAgg4
  z4 := Try.sizeOf4
  v4 := Try.zeroValue4
  t22 := Try.underlying22
  a22 := Try.isAgg22
  z22 := Try.sizeOf22
  v22 := Try.zeroValue22
  i3 := by kernel_rfl }
theorem setCells_grown (w : World) (g o : Nat) (vs : List Value) : w.grownBy (w.setCells g o vs) (some g) := by
  obtain ⟨h1, h2, h3, h4⟩ := setCells_same g vs o w
  exact ⟨h1, h2, h3, by rw [h4]; exact Nat.le_refl _, fun k _ hne => setCells_far vs o k (fun e => hne (by rw [e]))⟩
theorem alloc_grown (w : World) (o : Obj) (row : Option Nat) : w.grownBy (w.alloc o) row := World.grownBy_alloc w o row
theorem grown_up {a b : World} {row : Option Nat} (h : a.grownBy b none) : a.grownBy b row := ⟨h.os, h.tape, h.output, h.size, fun k hk _ => h.block k hk (by simp)⟩
theorem grown_drew {w X : World} {row : Option Nat} (h : w.drew.grownBy X row) : w.grownBy X row := ⟨h.os, h.tape, h.output, h.size, h.block⟩
/-- What a row is behind an insert. -/
def Inserted (base : Nat) (v : Value) (w : World) (ys : List Value) (e : Ending) (w' : World) : Prop := ∃ v', e = .returned v' ∧ w'.ownsRow base 3 1 v' ys.length ys ∧ w.grownBy w' v.ownBlock ∧ (v'.ownBlock = v.ownBlock ∨ ∃ b, v'.ownBlock = some b ∧ w.heap.size ≤ b)
theorem one_ints (l : List Int) : ∀ v ∈ nums .i64 l, v.oneCell' = true := fun v hv => by
  obtain ⟨x, _, rfl⟩ := List.mem_map.1 hv
  rfl
theorem own_at {base e n : Nat} {v : Value} {xs : List Value} {w : World} (h : w.ownsRow base e 1 v n xs) : xs.length = n ∧ ((v = .slice none 0 0 ∧ n = 0 ∧ xs = []) ∨ ∃ g cap cur, v = .slice (some ⟨g, 0, none⟩) n cap ∧ base ≤ g ∧ w.heap[g]? = some (.cells cur e (0, 0)) ∧ n ≤ cap ∧ cap ≤ maxLen ∧ cur.size = cap ∧ cur.toList.take n = xs) := by
  obtain ⟨h1, h2⟩ := h
  rw [Nat.mul_one] at h1
  refine ⟨h1, ?_⟩
  rcases h2 with ⟨rfl, h3⟩ | ⟨g, cap, cur, a1, a2, a3, a4, a5, a6, a7⟩
  · exact .inl ⟨rfl, h3, List.eq_nil_of_length_eq_zero (by omega)⟩
  · exact .inr ⟨g, cap, cur, a1, a2, a3, a4, a5, by omega, by rw [Nat.mul_one] at a7; exact a7⟩
theorem own_mk {base e n g cap : Nat} {cur : Array Value} {xs : List Value} {w : World} (hn : xs.length = n) (hb : base ≤ g) (hg : w.heap[g]? = some (.cells cur e (0, 0))) (h1 : n ≤ cap) (h2 : cap ≤ maxLen) (h3 : cur.size = cap) (h4 : cur.toList.take n = xs) : w.ownsRow base e 1 (.slice (some ⟨g, 0, none⟩) n cap) n xs :=
  ⟨by omega, .inr ⟨g, cap, cur, rfl, hb, hg, h1, h2, by omega, by rw [Nat.mul_one]; exact h4⟩⟩
theorem cells_of {w : World} {g e : Nat} {cur : Array Value} (h : w.heap[g]? = some (.cells cur e (0, 0))) {cs : List Value} {n : Nat} (ht : cur.toList.take n = cs) (j : Nat) (v : Value) (hj : cs[j]? = some v) : w.cell? ⟨g, 0 + j, none⟩ = some v := by
  rw [Nat.zero_add, blk_cell h j]
  subst ht
  rw [List.getElem?_take] at hj
  split at hj
  · simpa using hj
  · cases hj
theorem list_shift (cur : List Value) (cs : List Value) (n i : Nat) (x : Value) (hi : i < n) (hc : cur.take n = cs) (hn : n + 1 ≤ cur.length) (hcl : cs.length = n) :
    (((cur.take (i + 1) ++ cs.drop i ++ cur.drop (i + 1 + (cs.drop i).length)).take i ++ [x] ++ (cur.take (i + 1) ++ cs.drop i ++ cur.drop (i + 1 + (cs.drop i).length)).drop (i + 1)).take (n + 1)) = cs.take i ++ x :: cs.drop i := by
  have e1 : (cur.take (i + 1) ++ cs.drop i ++ cur.drop (i + 1 + (cs.drop i).length)).take i = cs.take i := by
    rw [List.append_assoc, List.take_append_of_le_length (by rw [List.length_take]; omega), List.take_take, ← hc, List.take_take]
    congr 1; omega
  have e2 : (cur.take (i + 1) ++ cs.drop i ++ cur.drop (i + 1 + (cs.drop i).length)).drop (i + 1) = cs.drop i ++ cur.drop (i + 1 + (cs.drop i).length) := by
    rw [List.append_assoc, List.drop_append_of_le_length (by rw [List.length_take]; omega), List.drop_eq_nil_of_le (by rw [List.length_take]; omega), List.nil_append]
  rw [e1, e2, ← List.append_assoc (cs.take i ++ [x])]
  rw [List.take_append_of_le_length (by simp [List.length_take, List.length_drop]; omega)]
  rw [List.take_of_length_le (by simp [List.length_take, List.length_drop]; omega), List.append_assoc]
  rfl
set_option maxRecDepth 100000 in
set_option maxHeartbeats 1000000 in
theorem insert_own (base : Nat) (v : Value) (l : List Int) (i : Nat) (x : Int) (vb : Nat) (w : World) (hown : w.ownsRow base 3 1 v l.length (nums .i64 l)) (hi : i ≤ l.length) (hlen : l.length + 1 < 17592186044416) (hv : w.heap[vb]? = some (.cells #[.int .i64 x] 3 (0, 0))) (hne : v.ownBlock ≠ some vb) (hbase : base ≤ w.heap.size) :
    Calls Try.prog 57 #[v, .int .i64 i, .slice (some ⟨vb, 0, none⟩) 1 1] w (Inserted base v w ((nums .i64 l).take i ++ .int .i64 x :: (nums .i64 l).drop i)) := by
  have h1v : ∀ u ∈ [Value.int .i64 x], u.oneCell' = true := fun u hu => by obtain rfl := List.mem_singleton.1 hu; rfl
  have hvs : ∀ (j : Nat) (u : Value), [Value.int .i64 x][j]? = some u → w.cell? ⟨vb, 0 + j, none⟩ = some u := fun j u hj => cells_of hv (n := 1) rfl j u hj
  have hmx : maxLen = 9223372036854775807 := rfl
  have h1c := one_ints l
  have hcl : (nums .i64 l).length = l.length := by simp [nums]
  obtain ⟨_, h | ⟨g, cap, cur, rfl, hg0, hg, hn, hm, hsz, ht⟩⟩ := own_at hown
  · obtain ⟨rfl, hl, hnil⟩ := h
    obtain rfl : l = [] := List.eq_nil_of_length_eq_zero hl
    obtain rfl : i = 0 := by simpa using hi
    have C := Any2.slices_Insert_int_end_grow ilay none 0 0 vb 0 1 1 [] [.int .i64 x] w (by omega) (by omega) (by omega) (by omega) rfl rfl (fun _ => rfl) (fun a ha => by cases ha) hvs h1v
    refine C.mono ?_
    rintro e w' ⟨rfl, rfl⟩
    refine ⟨_, rfl, ?_, ⟨rfl, rfl, rfl, by simp, fun k hk _ => Below.heap_alloc _ _ _ hk⟩, .inr ⟨_, rfl, Nat.le_refl _⟩⟩
    have hge : 1 ≤ grownCap w 1 0 (iren.t 3) := grownCap_ge w 1 0 (iren.t 3)
    refine own_mk (by simp [nums]) hbase (World.alloc_heap_new w.drew _) hge (grownCap_le_maxLen w (0 + 1) 0 (iren.t 3) (by rw [hmx]; omega)) (by simp [size_zeroCells, Value.cells]; omega) (by simp [nums])
  · have hcells := cells_of hg ht
    have hspn : ∀ j, j < cap → (w.cell? ⟨g, 0 + j, none⟩).isSome = true := fun j hj => by
      have hj' : j < cur.size := by omega
      rw [Nat.zero_add, blk_cell hg j]
      simp [hj']
    have hfz : ∀ j, w.frozen? ⟨g, j, none⟩ = false := fun j => blk_frozen hg j
    have hgv : vb ≠ g := fun e => hne (by rw [e]; rfl)
    have hcur : l.length ≤ cur.toList.length := by have := Array.length_toList (xs := cur); omega
    by_cases hroom : l.length + 1 ≤ cap
    · have hcur1 : l.length + 1 ≤ cur.toList.length := by have := Array.length_toList (xs := cur); omega
      by_cases hlt : i < l.length
      · have C := Any2.slices_Insert_int_shift ilay g 0 l.length cap i vb 0 1 1 (nums .i64 l) [.int .i64 x] w hlt (by omega) hroom (by omega) hgv hcl rfl hcells (fun j hj => hspn j (by omega)) (fun j _ => hfz _) hvs h1c h1v 3 3 1 cap (by simp [World.shape?, hv]) (by simp [World.shape?, hg, hsz]) (by omega) (blk_frozen hv 0) (blk_frozen hv 1)
        refine C.mono ?_
        rintro e w' ⟨rfl, rfl⟩
        obtain ⟨cur1, k1, k2, k3⟩ := setCells_row ((nums .i64 l).drop i) (0 + (i + 1)) w.drew cur hg (by rw [List.length_drop, hcl]; omega)
        obtain ⟨cur2, m1, m2, m3⟩ := setCells_row [.int .i64 x] (0 + i) _ cur1 k1 (by simp; omega)
        have G : w.grownBy ((w.drew.setCells g (0 + (i + 1)) ((nums .i64 l).drop i)).setCells g (0 + i) [.int .i64 x]) (some g) := World.grownBy.trans (grown_drew (setCells_grown w.drew g _ _)) (setCells_grown _ g _ _)
        refine ⟨_, rfl, ?_, G, .inl rfl⟩
        have hys : ((nums .i64 l).take i ++ .int .i64 x :: (nums .i64 l).drop i).length = l.length + 1 := by simp [nums]; omega
        rw [hys]
        refine own_mk hys hg0 m1 hroom hm (by omega) ?_
        rw [m3, k3]
        simp only [Nat.zero_add, List.length_singleton]
        exact list_shift cur.toList (nums .i64 l) l.length i _ hlt ht hcur1 hcl
      · obtain rfl : i = l.length := by omega
        have C := Any2.slices_Insert_int_end_room ilay g 0 l.length cap vb 0 1 1 [.int .i64 x] w (by omega) hroom (by omega) rfl (fun j hj => by rw [Nat.add_assoc]; exact hspn _ (by omega)) (fun j _ => hfz _) hvs h1v
        refine C.mono ?_
        rintro e w' ⟨rfl, rfl⟩
        obtain ⟨cur2, m1, m2, m3⟩ := setCells_row [.int .i64 x] (0 + l.length) w cur hg (by simp; omega)
        refine ⟨_, rfl, ?_, setCells_grown w g _ _, .inl rfl⟩
        have hys : ((nums .i64 l).take l.length ++ .int .i64 x :: (nums .i64 l).drop l.length).length = l.length + 1 := by simp [nums]
        rw [hys]
        refine own_mk hys hg0 m1 hroom hm (by omega) ?_
        rw [m3, Nat.zero_add, ht, List.take_of_length_le (Nat.le_of_eq hcl), List.drop_eq_nil_of_le (Nat.le_of_eq hcl)]
        rw [List.take_append_of_le_length (by simp [nums]), List.take_of_length_le (by simp [nums])]
    · by_cases hlt : i < l.length
      · have C := Any2.slices_Insert_int_grow ilay g 0 l.length cap i vb 0 1 1 (nums .i64 l) [.int .i64 x] w hlt (by omega) hn (by omega) (by omega) hcl rfl hcells hvs h1c h1v
        refine C.mono ?_
        rintro e w' ⟨rfl, rfl⟩
        have hge := grownCap_ge w (l.length + 1) cap (iren.t 3)
        have hle := grownCap_le_maxLen w (l.length + 1) cap (iren.t 3) (by rw [hmx]; omega)
        generalize grownCap w (l.length + 1) cap (iren.t 3) = gc at *
        have hsize : (((nums .i64 l).take i).toArray ++ Builtin.zeroCells (Value.int .i64 0).cells (l.length + 1 - i) ++ Builtin.zeroCells (Value.int .i64 0).cells (gc - (l.length + 1))).size = gc := by
          simp [size_zeroCells, Value.cells, nums]; omega
        have hA := World.alloc_heap_new w (.cells (((nums .i64 l).take i).toArray ++ Builtin.zeroCells (Value.int .i64 0).cells (l.length + 1 - i) ++ Builtin.zeroCells (Value.int .i64 0).cells (gc - (l.length + 1))) (iren.t 3))
        have hG0 : w.grownBy (w.alloc (.cells (((nums .i64 l).take i).toArray ++ Builtin.zeroCells (Value.int .i64 0).cells (l.length + 1 - i) ++ Builtin.zeroCells (Value.int .i64 0).cells (gc - (l.length + 1))) (iren.t 3))).drew (none : Option Nat) := ⟨rfl, rfl, rfl, by simp, fun k hk _ => Below.heap_alloc _ _ _ hk⟩
        have hT : ((((nums .i64 l).take i).toArray ++ Builtin.zeroCells (Value.int .i64 0).cells (l.length + 1 - i) ++ Builtin.zeroCells (Value.int .i64 0).cells (gc - (l.length + 1))).toList).take i = (nums .i64 l).take i := by
          rw [Array.toList_append, Array.toList_append, List.append_assoc, List.take_append_of_le_length (by simp [nums]; omega)]
          exact List.take_of_length_le (by simp; omega)
        generalize (((nums .i64 l).take i).toArray ++ Builtin.zeroCells (Value.int .i64 0).cells (l.length + 1 - i) ++ Builtin.zeroCells (Value.int .i64 0).cells (gc - (l.length + 1))) = cur0 at *
        obtain ⟨cur1, k1, k2, k3⟩ := setCells_row [.int .i64 x] i (w.alloc (.cells cur0 (iren.t 3))).drew cur0 hA (by simp; omega)
        obtain ⟨cur2, m1, m2, m3⟩ := setCells_row ((nums .i64 l).drop i) (i + 1) (((w.alloc (.cells cur0 (iren.t 3))).drew.setCells w.heap.size i [.int .i64 x]).drew) cur1 k1 (by rw [List.length_drop, hcl]; omega)
        have G : w.grownBy ((((w.alloc (.cells cur0 (iren.t 3))).drew.setCells w.heap.size i [.int .i64 x]).drew).setCells w.heap.size (i + 1) ((nums .i64 l).drop i)) (some g) := by
          obtain ⟨s1, s2, s3, s4⟩ := setCells_same w.heap.size [.int .i64 x] i (w.alloc (.cells cur0 (iren.t 3))).drew
          obtain ⟨r1, r2, r3, r4⟩ := setCells_same w.heap.size ((nums .i64 l).drop i) (i + 1) (((w.alloc (.cells cur0 (iren.t 3))).drew.setCells w.heap.size i [.int .i64 x]).drew)
          refine ⟨r1.trans s1, r2.trans s2, r3.trans s3, ?_, fun k hk _ => ?_⟩
          · rw [r4]; exact Nat.le_trans hG0.size (Nat.le_of_eq s4.symm)
          · refine (setCells_far _ _ k (by omega)).trans ?_
            exact (setCells_far (w := (w.alloc (.cells cur0 (iren.t 3))).drew) _ _ k (by omega)).trans (hG0.block k hk (by simp))
        refine ⟨_, rfl, ?_, G, .inr ⟨_, rfl, Nat.le_refl _⟩⟩
        have hys : ((nums .i64 l).take i ++ .int .i64 x :: (nums .i64 l).drop i).length = l.length + 1 := by simp [nums]; omega
        rw [hys]
        refine own_mk hys hbase m1 hge hle (by omega) ?_
        rw [m3, k3]
        have ec : cur0.toList.length = gc := by rw [Array.length_toList]; exact hsize
        have e1 : (cur0.toList.take i ++ [Value.int .i64 x] ++ cur0.toList.drop (i + [Value.int .i64 x].length)).take (i + 1) = (nums .i64 l).take i ++ [.int .i64 x] := by
          rw [List.take_append_of_le_length (by simp; omega), List.take_of_length_le (by simp; omega), hT]
        rw [e1, List.append_assoc, List.append_assoc, ← List.append_assoc [Value.int .i64 x], ← List.append_assoc]
        rw [List.take_append_of_le_length (by simp [nums]; omega), List.take_of_length_le (by simp [nums]; omega)]
        rfl
      · obtain rfl : i = l.length := by omega
        have C := Any2.slices_Insert_int_end_grow ilay (some ⟨g, 0, none⟩) l.length cap vb 0 1 1 (nums .i64 l) [.int .i64 x] w (by omega) hn (by omega) (by omega) hcl rfl (fun h => by cases h) (fun a ha j u hj => by cases ha; have := hcells j u hj; rw [Nat.zero_add] at this; rw [show (⟨g, 0, none⟩ : Addr).add j = ⟨g, j, none⟩ from by simp [Addr.add, eq_comm]]; exact this) hvs h1v
        refine C.mono ?_
        rintro e w' ⟨rfl, rfl⟩
        have hge := grownCap_ge w (l.length + 1) cap (iren.t 3)
        have hle := grownCap_le_maxLen w (l.length + 1) cap (iren.t 3) (by rw [hmx]; omega)
        refine ⟨_, rfl, ?_, ⟨rfl, rfl, rfl, by simp, fun k hk _ => Below.heap_alloc _ _ _ hk⟩, .inr ⟨_, rfl, Nat.le_refl _⟩⟩
        have hys : ((nums .i64 l).take l.length ++ .int .i64 x :: (nums .i64 l).drop l.length).length = l.length + 1 := by simp [nums]
        rw [hys]
        refine own_mk hys hbase (World.alloc_heap_new w.drew _) hge hle (by simp [size_zeroCells, Value.cells, nums]; omega) ?_
        rw [List.take_of_length_le (Nat.le_of_eq hcl), List.drop_eq_nil_of_le (Nat.le_of_eq hcl), Array.toList_append]
        rw [List.take_append_of_le_length (by simp [nums]), List.take_of_length_le (by simp [nums])]
end Go.Proofs.Ythblifjeecdhcaa.Hand
end
section
namespace Go.Proofs.Ythblifjeecdhcaa.Hand
open Go.RowKit Go.Shelf Go.Proofs.YthblifjeecdhcaaW.PrintWords Go.Proofs.YthblifjeecdhcaaW.PrintMore Go.Proofs.Ythblifjeecdhcaa.A
set_option linter.unusedVariables false
set_option linter.unusedSimpArgs false
def insG (l : List Int) (i x most : Int) : Option (List Int) := if 0 ≤ i ∧ i ≤ (l.length : Int) ∧ l.length + 1 < 17592186044416 then (if most < ((l.length + 1 : Nat) : Int) then (if 0 ≤ most then some ((l.take i.toNat ++ x :: l.drop i.toNat).take most.toNat) else none) else some (l.take i.toNat ++ x :: l.drop i.toNat)) else none
def kmv_insert.f (k : Nat) (l0 : List Int) (a1 a2 : Int) : Option (List Int) := (slices_BinarySearch_int_int.f k l0 a1).bind fun p => if p.2 = true then some l0 else insG l0 p.1 a1 a2
theorem kmv_insert.mono : ∀ a0 a1 a2 k, LeO (kmv_insert.f k a0 a1 a2) (kmv_insert.f (k + 1) a0 a1 a2) := by
  intro a0 a1 a2 k
  unfold kmv_insert.f
  exact LeO.bind (slices_BinarySearch_int_int.mono _ _ _) (fun p => LeO.refl _)
set_option maxRecDepth 100000 in
set_option maxHeartbeats 4000000 in
theorem kmv_insert.calls (k : Nat) (P0_ : Nat → Prop) (u9000_ : Value) (l0 : List Int) (a1 a2 : Int) (r : List Int) (w0 w : World) (hB : Below w0.heap.size w0 w) (ho0 : Kd.R (Kd.int .i64) 3 w w0.heap.size P0_ u9000_ l0) (h : kmv_insert.f k l0 a1 a2 = some r) :
    Calls Try.prog 35 #[u9000_, .int .i64 a1, .int .i64 a2] w fun e w' => ∃ v0_ : Value, e = .returned v0_ ∧ Kd.R (Kd.int .i64) 3 w' w0.heap.size (fun k_ => (P0_ k_ ∨ w.heap.size ≤ k_)) v0_ r ∧ Below w0.heap.size w0 w' ∧ Kept w w' (fun k_ => P0_ k_) := by
  unfold kmv_insert.f at h
  replace h := Option.bind_eq_some_iff.1 h
  obtain ⟨⟨i, f⟩, hbs, h⟩ := h
  dsimp only at h
  obtain ⟨A0, c0, rfl⟩ := Kd.R_slice ho0
  have HBS := Aside0.mk hbs
  have HO := Aside0.mk ho0
  have HB := Aside0.mk hB
  have hrd := Kd.R_reads' ho0
  have HRD := Aside0.mk hrd.2.2
  have hc0 := hrd.2.1
  have hsz := hB.size
  clear hbs ho0 hB hrd
  go_enter Try.func35, Try.ntmps35
  cases f with
  | true =>
    rw [if_pos rfl] at h
    cases h
    go_wp2_with (go_at_call 56; refine (slices_BinarySearch_int_int.calls k A0 c0 l0 a1 i true _ HRD.out hc0 HBS.out).mono ?_; rintro e w' ⟨rfl, ⟨nd, rfl⟩⟩)
    go_ret
    exact ⟨_, rfl, Kd.R_drewN (Kd.R_mono HO.out (fun _ hk => .inl hk)) nd, pw_below_drewN HB.out nd, (Kept.refl w _).drewN nd⟩
  | false =>
    rw [if_neg (by simp)] at h
    unfold insG at h
    split at h
    case isFalse => cases h
    rename_i hc
    obtain ⟨h0, h1, hlen⟩ := hc
    obtain ⟨n, rfl⟩ := Int.eq_ofNat_of_zero_le h0
    simp only [Int.ofNat_eq_natCast, Int.toNat_natCast] at h
    have hn : n ≤ l0.length := by simpa using h1
    go_wp2_with (go_at_call 56; refine (slices_BinarySearch_int_int.calls k A0 c0 l0 a1 _ false _ HRD.out hc0 HBS.out).mono ?_; rintro e w' ⟨rfl, ⟨nd, rfl⟩⟩)
    obtain ⟨W2, hW2⟩ : ∃ W2, W2 = (w.drewN nd).alloc (.cells #[.int .i64 a1] 3) := ⟨_, rfl⟩
    have hb2 : Below w.heap.size w W2 := by rw [hW2]; exact (pw_below_drewN (Below.refl _ w) nd).alloc (by simp [World.drewN]) _
    have hs2 : W2.heap.size = w.heap.size + 1 := by rw [hW2]; simp [World.drewN]
    have hv2 : W2.heap[w.heap.size]? = some (.cells #[.int .i64 a1] 3 (0, 0)) := by rw [hW2]; exact World.alloc_heap_new (w.drewN nd) _
    have ho2 := Kd.R_below HO.out hb2
    have hown := Kd.own_of_R ho2
    have hlt := Kd.R_lt HO.out
    rw [← hW2]
    have C := insert_own w0.heap.size (.slice A0 l0.length c0) l0 n a1 w.heap.size W2 hown hn hlen hv2 (fun e => by have := hlt _ e; omega) (by omega)
    refine C.mono ?_
    rintro e W3 ⟨v3, rfl, hown3, hg3, hat3⟩
    have hys : ((nums .i64 l0).take n ++ .int .i64 a1 :: (nums .i64 l0).drop n).length = l0.length + 1 := by simp [nums]; omega
    have hym : (nums .i64 l0).take n ++ .int .i64 a1 :: (nums .i64 l0).drop n = nums .i64 (l0.take n ++ a1 :: l0.drop n) := by simp [nums]
    have hle : (l0.take n ++ a1 :: l0.drop n).length = l0.length + 1 := by simp; omega
    rw [hys, hym] at hown3
    have hok3 : ∀ k, v3.ownBlock = some k → (P0_ k ∨ w.heap.size ≤ k) := fun k hk => by
      rcases hat3 with h3 | ⟨b, h3, hb⟩
      · rw [h3] at hk; exact .inl (HO.out.1 k hk)
      · rw [h3] at hk; cases hk; exact .inr (by omega)
    have hR3 : Kd.R (Kd.int .i64) 3 W3 w0.heap.size (fun k_ => (P0_ k_ ∨ w.heap.size ≤ k_)) v3 (l0.take n ++ a1 :: l0.drop n) := Kd.R_of_own (by rw [hle]; exact hown3) hok3
    have hB3 : Below w0.heap.size w0 W3 := (HB.out.trans (hb2.mono hsz)).grown hg3 (by omega) (fun k hk => Kd.R_base HO.out k hk)
    have hK3 : Kept w W3 (fun k_ => P0_ k_) := Kept.of_grown hg3 (Kept.of_below hb2 _) (fun k hk => .inl (HO.out.1 k hk))
    obtain ⟨A3, c3, rfl⟩ := Kd.R_slice hR3
    rw [hle] at hR3
    have HR3 := Aside0.mk hR3
    have HB3 := Aside0.mk hB3
    have HK3 := Aside0.mk hK3
    have hc3 := (Kd.R_reads' hR3).2.1
    clear hown3 hg3 hat3 hR3 hB3 hK3 hok3 hW2 hb2 hs2 hv2 ho2 hown hlt
    rw [hle]
    by_cases hm : a2 < ((l0.length + 1 : Nat) : Int)
    · rw [if_pos hm] at h
      split at h
      case isFalse => cases h
      rename_i hm0
      cases h
      have t1 : decide (a2 < ((l0.length + 1 : Nat) : Int)) = true := decide_eq_true hm
      have t2 : decide (a2 < (l0.length : Int) + 1) = true := decide_eq_true (by omega)
      obtain ⟨i0, hi, hz0, hz1, hz2⟩ := info_parts infoC
      have hcut := cut_to (P := Try.prog) 22 3 .i64 Try.underlying22 hi A3 (l0.length + 1) c3 a2 hm0 (by omega) hc3
      clear hi hz0 hz1 hz2
      go_wp2
      go_ret
      refine ⟨_, rfl, Kd.R_take HR3.out (by rw [hle]; omega), HB3.out, HK3.out⟩
    · rw [if_neg hm] at h
      cases h
      have t1 : decide (a2 < ((l0.length + 1 : Nat) : Int)) = false := decide_eq_false hm
      have t2 : decide (a2 < (l0.length : Int) + 1) = false := decide_eq_false (by omega)
      go_wp2
      go_ret
      exact ⟨_, rfl, HR3.out, HB3.out, HK3.out⟩
end Go.Proofs.Ythblifjeecdhcaa.Hand
end
section
namespace Go.Proofs.Ythblifjeecdhcaa.Hand
open Go.RowKit Go.Proofs.YthblifjeecdhcaaW.PrintWords Go.Proofs.YthblifjeecdhcaaW.PrintMore Go.Proofs.Ythblifjeecdhcaa.A
attribute [local go_sem] max2_int min2_int max_two min_two
set_option linter.unusedVariables false
set_option linter.unusedSimpArgs false
def estG (K : Int) (H : List Int) (lo hi : Int) : Option Int := if (H.length : Int) < K then some (H.length : Int) else if 0 < H.length ∧ 0 ≤ rd H ((H.length : Int) - 1) ∧ rd H ((H.length : Int) - 1) < 4294967296 ∧ 1 ≤ K ∧ K ≤ 1000 then some (mn (mx ((K - 1) * 4294967296 / (rd H ((H.length : Int) - 1) + 1)) lo) hi) else none
def kmv_Estimate.f (k : Nat) (a0_0 a0_1 : Int) (l0_2 : List Int) : Option (Int × Int) := (kmv_Check.f k a0_0 a0_1 l0_2).bind fun t => if t = 0 then ((kmv_bounds.f a0_0 a0_1 l0_2).bind fun p => (estG a0_0 l0_2 p.1 p.2).bind fun n => some (n, 0)) else some (0, 1)
theorem kmv_Estimate.mono : ∀ a0 a1 a2 k, LeO (kmv_Estimate.f k a0 a1 a2) (kmv_Estimate.f (k + 1) a0 a1 a2) := by
  intro a0 a1 a2 k
  unfold kmv_Estimate.f
  exact LeO.bind (kmv_Check.mono _ _ _ _) (fun t => LeO.refl _)
set_option maxHeartbeats 1000000 in
theorem est_clo (n lo hi : Int) (b1 b2 : Nat) (w : World) (h1 : w.heap[b1]? = some (.cells #[.int .i64 lo] 3 (0, 0))) (h2 : w.heap[b2]? = some (.cells #[.int .i64 hi] 3 (0, 0))) :
    Calls Try.prog 45 #[.int .i64 n, .pointer (some ⟨b1, 0, none⟩), .pointer (some ⟨b2, 0, none⟩)] w fun e w' => e = .returned (.int .i64 (mn (mx n lo) hi)) ∧ w = w' := by
  have c1 : w.cell? ⟨b1, 0, none⟩ = some (.int .i64 lo) := (blk_cell h1 0).trans rfl
  have c2 : w.cell? ⟨b2, 0, none⟩ = some (.int .i64 hi) := (blk_cell h2 0).trans rfl
  clear h1 h2
  go_enter Try.func45, Try.ntmps45
  go_wp2
  all_goals
    go_ret
    refine ⟨congrArg (fun z => Ending.returned (.int .i64 z)) ?_, rfl⟩
    unfold mn mx
    first | omega | ((repeat' split) <;> first | omega | (split at * <;> omega))
set_option maxRecDepth 100000 in
set_option maxHeartbeats 2000000 in
theorem est_in (K C lo hi : Int) (A : Option Addr) (c : Nat) (H : List Int) (b1 b2 : Nat) (r : Int) (w : World) (hr : Kd.C (Kd.int .i64) w A H.length H) (hc : H.length ≤ c) (h1 : w.heap[b1]? = some (.cells #[.int .i64 lo] 3 (0, 0))) (h2 : w.heap[b2]? = some (.cells #[.int .i64 hi] 3 (0, 0))) (h : estG K H lo hi = some r) :
    Calls Try.prog 44 #[.agg #[.int .i64 K, .int .i64 C, .slice A H.length c], .func (.func 45) #[] #[.pointer (some ⟨b1, 0, none⟩), .pointer (some ⟨b2, 0, none⟩)]] w fun e w' => e = .returned (.int .i64 r) ∧ Below w.heap.size w w' := by
  have hB : Below w.heap.size w (w.alloc (.cells #[.int .i64 K, .int .i64 C, .slice A H.length c] 24)) := (Below.refl _ w).alloc (Nat.le_refl _) _
  have k1 := Aside0.mk ((hB.block b1 (Array.getElem?_eq_some_iff.1 h1).1).trans h1)
  have k2 := Aside0.mk ((hB.block b2 (Array.getElem?_eq_some_iff.1 h2).1).trans h2)
  have HB := Aside0.mk hB
  have hm := hr.2.1
  clear h1 h2 hB
  unfold estG at h
  by_cases c1 : (H.length : Int) < K
  · rw [if_pos c1] at h
    cases h
    have t1 : decide ((H.length : Int) < K) = true := decide_eq_true c1
    go_enter Try.func44, Try.ntmps44
    go_wp2
    go_ret
    exact ⟨rfl, HB.out⟩
  · rw [if_neg c1] at h
    split at h
    case isFalse => cases h
    rename_i hg
    obtain ⟨g0, g1, g2, g3, g4⟩ := hg
    cases h
    have t1 : decide ((H.length : Int) < K) = false := decide_eq_false c1
    obtain ⟨ad, rfl, q0⟩ := Kd.at_int (Kd.C_below hr HB.out) ((H.length : Int) - 1) (by omega) (by omega)
    rw [show ((H.length : Int) - 1).toNat = H.length - 1 by omega] at q0
    generalize rd H ((H.length : Int) - 1) = g at *
    have p1 : 0 ≤ (K - 1) * 4294967296 := by omega
    have p2 : (K - 1) * 4294967296 ≤ 4294967296000 := by omega
    have p3 : 1 ≤ g + 1 := by omega
    have p4 : (H.length : Int) - 1 < (H.length : Int) := by omega
    have p5 : 0 ≤ (H.length : Int) - 1 := by omega
    have p6 : 1 ≤ (H.length : Int) := by omega
    have p7 : ¬ (g + 1 = 0) := by omega
    go_enter Try.func44, Try.ntmps44
    go_wp2_with (refine (est_clo _ lo hi b1 b2 _ k1.out k2.out).mono ?_; rintro e w' ⟨rfl, rfl⟩)
    go_ret
    exact ⟨rfl, HB.out⟩
set_option maxRecDepth 100000 in
set_option maxHeartbeats 4000000 in
theorem kmv_Estimate.calls (k : Nat) (a0_0 a0_1 : Int) (A0_2 : Option Addr) (c0_2 : Nat) (l0_2 : List Int) (r1 r2 : Int) (w : World) (hr0_2 : Kd.C (Kd.int .i64) w A0_2 l0_2.length l0_2) (hc0_2 : l0_2.length ≤ c0_2) (h : kmv_Estimate.f k a0_0 a0_1 l0_2 = some (r1, r2)) :
    Calls Try.prog 28 #[.agg #[.int .i64 a0_0, .int .i64 a0_1, .slice A0_2 l0_2.length c0_2]] w fun e w' => e = .returned (.tuple #[.int .i64 r1, .int .i64 r2]) ∧ Below w.heap.size w w' := by
  unfold kmv_Estimate.f at h
  replace h := Option.bind_eq_some_iff.1 h
  obtain ⟨t, ht, h⟩ := h
  have HR := Aside0.mk hr0_2
  have HT := Aside0.mk ht
  clear hr0_2 ht
  obtain ⟨W1, hW1⟩ : ∃ W1, W1 = w.alloc (.cells #[.int .i64 a0_0, .int .i64 a0_1, .slice A0_2 l0_2.length c0_2] 24) := ⟨_, rfl⟩
  have HB1 : Aside0 (Below w.heap.size w W1) := ⟨by rw [hW1]; exact (Below.refl _ w).alloc (Nat.le_refl _) _⟩
  have K1 : Aside0 (W1.heap[w.heap.size]? = some (.cells #[.int .i64 a0_0, .int .i64 a0_1, .slice A0_2 l0_2.length c0_2] 24 (0, 0))) := ⟨by rw [hW1]; exact World.alloc_heap_new w _⟩
  go_enter Try.func28, Try.ntmps28
  go_wp2_with fail
  rw [← hW1]
  refine (kmv_Check.calls k a0_0 a0_1 _ _ l0_2 t _ (Kd.C_below HR.out HB1.out) hc0_2 HT.out).mono ?_
  rintro e W2 ⟨rfl, hb2⟩
  have HB2 := Aside0.mk (HB1.out.trans (hb2.mono HB1.out.size))
  have k2 := (hb2.block _ (Array.getElem?_eq_some_iff.1 K1.out).1).trans K1.out
  clear hb2 HB1 K1 hW1 W1
  have K2 := Aside0.mk k2
  have q0 : W2.cell? ⟨w.heap.size, 0, none⟩ = some (.int .i64 a0_0) := (blk_cell k2 0).trans rfl
  have q1 : W2.cell? ⟨w.heap.size, 1, none⟩ = some (.int .i64 a0_1) := (blk_cell k2 1).trans rfl
  have q2 : W2.cell? ⟨w.heap.size, 2, none⟩ = some (.slice A0_2 l0_2.length c0_2) := (blk_cell k2 2).trans rfl
  clear k2
  by_cases c1 : t = 0
  · rw [if_pos c1] at h
    have c1b : (t != 0) = false := bne_eq_false_iff_eq.mpr c1
    clear c1
    replace h := Option.bind_eq_some_iff.1 h
    obtain ⟨⟨lo, hi⟩, hp, h⟩ := h
    replace h := Option.bind_eq_some_iff.1 h
    obtain ⟨n, hn, h⟩ := h
    cases h
    have HP := Aside0.mk hp
    have HN := Aside0.mk hn
    clear hp hn
    go_wp2_with fail
    refine (kmv_bounds.calls a0_0 a0_1 _ _ l0_2 lo hi _ (Kd.C_below HR.out HB2.out) hc0_2 HP.out).mono ?_
    rintro e W3 ⟨rfl, hb3⟩
    have HB3 := Aside0.mk (HB2.out.trans (hb3.mono HB2.out.size))
    have k3 := (hb3.block _ (Array.getElem?_eq_some_iff.1 K2.out).1).trans K2.out
    clear hb3 HB2 K2 q0 q1 q2
    have hlt3 := (Array.getElem?_eq_some_iff.1 k3).1
    have q0 : W3.cell? ⟨w.heap.size, 0, none⟩ = some (.int .i64 a0_0) := (blk_cell k3 0).trans rfl
    have q1 : W3.cell? ⟨w.heap.size, 1, none⟩ = some (.int .i64 a0_1) := (blk_cell k3 1).trans rfl
    have q2 : W3.cell? ⟨w.heap.size, 2, none⟩ = some (.slice A0_2 l0_2.length c0_2) := (blk_cell k3 2).trans rfl
    clear k3
    go_wp2_with fail
    have hbx : Below W3.heap.size W3 ((W3.alloc (.cells #[.int .i64 lo] 3)).alloc (.cells #[.int .i64 hi] 3)) := ((Below.refl _ W3).alloc (Nat.le_refl _) _).alloc (by simp) _
    have b2 := World.alloc_heap_new (W3.alloc (.cells #[.int .i64 lo] 3)) (.cells #[.int .i64 hi] 3)
    rw [World.size_alloc] at b2
    refine (est_in a0_0 a0_1 lo hi A0_2 c0_2 l0_2 W3.heap.size (W3.heap.size + 1) r1 _ (Kd.C_below (Kd.C_below HR.out HB3.out) hbx) hc0_2 (blk_alloc (World.alloc_heap_new W3 _) _) b2 HN.out).mono ?_
    rintro e W4 ⟨rfl, hb4⟩
    have HB4 := HB3.out.trans ((hbx.trans (hb4.mono (by simp; omega))).mono HB3.out.size)
    clear hb4 hbx b2
    go_wp2
    go_ret2
    exact ⟨rfl, HB4⟩
  · rw [if_neg c1] at h
    have c1b : (t != 0) = true := bne_iff_ne.mpr c1
    clear c1
    cases h
    go_wp2
    go_ret2
    exact ⟨rfl, HB2.out⟩
end Go.Proofs.Ythblifjeecdhcaa.Hand
end
