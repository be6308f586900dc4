/- The contracts of postings.combined at the functions that the code hands it: what the Go code returns for any two lists. No further condition. -/
import Derived.Test.YtdmdhpnlalekfaaHWalk
namespace Go.Proofs.Ytdmdhpnlalekfaa.Hand
open Go.RowKit Go.Shelf Go.Proofs.YtdmdhpnlalekfaaW.PrintWords Go.Proofs.YtdmdhpnlalekfaaW.PrintMore Go.Proofs.Ytdmdhpnlalekfaa.Seq
attribute [local go_sem] Oper.semAt_some
set_option linter.unusedVariables false

set_option maxHeartbeats 1000000 in
theorem walk_in (n : Nat) (A0 A1 : Option Addr) (m0 m1 c0 c1 : Nat) (w : World) :
    CallsIn Fence.wide n Try.prog 59 #[.slice A0 m0 c0, .slice A1 m1 c1] w fun e w' => e = .returned (.func (.func 67) #[] #[.pointer (some ⟨w.heap.size, 0, none⟩), .pointer (some ⟨w.heap.size + 1, 0, none⟩)]) ∧ w' = (w.alloc (.cells #[.slice A0 m0 c0] 23)).alloc (.cells #[.slice A1 m1 c1] 23) := by
  refine callsIn_of_wp Try.func59 rfl trivial ?_ rfl
  simp only [Try.ntmps59, List.size_toArray, List.length_cons, List.length_nil, Nat.reduceAdd, Nat.reduceSub, Array.replicate_succ, Array.replicate_zero, List.push_toArray, List.append_toArray, List.nil_append, List.cons_append]
  gi_wp2
  go_ret
  exact ⟨rfl, rfl⟩

def combG (g : Bool → Bool → Bool) (L : List (Int × Bool × Bool)) : List Int := (L.filter fun e => g e.2.1 e.2.2).map (·.1)
theorem combG_take (g : Bool → Bool → Bool) (L : List (Int × Bool × Bool)) {k : Nat} (h : k < L.length) : combG g (L.take (k + 1)) = combG g (L.take k) ++ (if g (L.getD k (0, false, false)).2.1 (L.getD k (0, false, false)).2.2 then [(L.getD k (0, false, false)).1] else []) := by
  rw [List.take_succ_eq_append_getElem h]
  simp only [combG, List.filter_append, List.map_append]
  congr 1
  have e : L.getD k (0, false, false) = L[k] := by simp [List.getD, List.getElem?_eq_getElem h]
  rw [e]
  by_cases hc : g L[k].2.1 L[k].2.2 = true
  · simp [hc]
  · simp [hc]
theorem combG_len (g : Bool → Bool → Bool) (L : List (Int × Bool × Bool)) (k : Nat) : (combG g (L.take k)).length ≤ L.length := by
  have h1 := List.length_filter_le (fun e : Int × Bool × Bool => g e.2.1 e.2.2) (L.take k)
  have h2 : (L.take k).length ≤ L.length := by rw [List.length_take]; omega
  simp only [combG, List.length_map]
  omega
def combF (g : Bool → Bool → Bool) (l0 l1 : List Int) : Option (List Int) := if l0.length + l1.length < 17592186044416 then some (combG g (walkL l0 l1)) else none
theorem box_kept {Bnd : Nat} {X Y : World} {row : Option Nat} {b t : Nat} {v : Value} (h : Boxed X b t v) (hg : X.grownBy Y row) (hr : ∀ r, row = some r → Bnd ≤ r ∧ ∃ o : Obj, X.heap[r]? = some o ∧ o.isCells = false) : Boxed Y b t v :=
  h.kept hg (fun e => by
    obtain ⟨_, o, ho, hc⟩ := hr b e.symm
    rw [show X.heap[b]? = _ from h] at ho
    cases ho; cases hc)
theorem below_kept {Bnd n₀ : Nat} {w X Y : World} {row : Option Nat} (h : Below n₀ w X) (hn : n₀ ≤ w.heap.size) (hB : n₀ ≤ Bnd) (hg : X.grownBy Y row) (hr : ∀ r, row = some r → Bnd ≤ r ∧ ∃ o : Obj, X.heap[r]? = some o ∧ o.isCells = false) : Below n₀ w Y :=
  h.grown hg (Nat.le_trans hn h.size) (fun k e => Nat.le_trans hB (hr k e).1)
theorem infoInt : (Try.prog.info? 3).map (fun i => (i.zero, i.size, i.bytes)) = some (some (.int .i64 0), 1, 8) := by kernel_rfl

set_option maxRecDepth 100000 in
set_option maxHeartbeats 8000000 in
theorem combined_in (g : Bool → Bool → Bool) (fw : Nat) (hgw : ∀ (p q : Bool) (W : World), Calls Try.prog fw #[.agg #[.bool p, .bool q]] W fun e W' => e = .returned (.bool (g p q)) ∧ Below W.heap.size W W') (efw : ∀ args w, (callFunc fw args).run Try.prog w = .ok (.enter fw args) w)
    (A0 : Option Addr) (c0 : Nat) (l0 : List Int) (A1 : Option Addr) (c1 : Nat) (l1 : List Int) (r : List Int) (w : World) (hC0 : Kd.C (Kd.int .i64) w A0 l0.length l0) (hC1 : Kd.C (Kd.int .i64) w A1 l1.length l1) (h : combF g l0 l1 = some r) :
    Calls Try.prog 41 #[.slice A0 l0.length c0, .slice A1 l1.length c1, .func (.func fw) #[] #[]] w fun e w' => ∃ v : Value, e = .returned v ∧ Kd.R (Kd.int .i64) 3 w' w.heap.size (fun _ => True) v r ∧ Below w.heap.size w w' := by
  obtain ⟨i0, hi, hz0, hz1, hz2⟩ := info_parts infoInt
  unfold combF at h
  split at h
  case isFalse => cases h
  rename_i hlen
  injection h with h
  have hwl := walkL_len l0 l1
  refine (callsIn_wide (n := 4)).1 ?_
  refine callsIn_of_wp_marks Try.func41 rfl trivial ?_ rfl
  simp only [Try.ntmps41, List.size_toArray, List.length_cons, List.length_nil, Nat.reduceAdd, Nat.reduceSub, Array.replicate_succ, Array.replicate_zero, List.push_toArray, List.append_toArray, List.nil_append, List.cons_append]
  gi_wp2_with fail
  refine ⟨trivial, (walk_in _ _ _ _ _ _ _ _).mono ?_⟩
  rintro e w' ⟨rfl, rfl⟩
  gi_wp2
  have bF := Boxed.new w 52 (.func (.func fw) #[] #[])
  have bO := Boxed.new (w.alloc (.cells #[.func (.func fw) #[] #[]] 52)) 23 (.slice none 0 0)
  have b1 := Boxed.new ((w.alloc (.cells #[.func (.func fw) #[] #[]] 52)).alloc (.cells #[.slice none 0 0] 23)) 23 (.slice A0 l0.length c0)
  have b2 := Boxed.new (((w.alloc (.cells #[.func (.func fw) #[] #[]] 52)).alloc (.cells #[.slice none 0 0] 23)).alloc (.cells #[.slice A0 l0.length c0] 23)) 23 (.slice A1 l1.length c1)
  simp only [World.size_alloc] at bO b1 b2
  have hB0 : Below w.heap.size w ((((w.alloc (.cells #[.func (.func fw) #[] #[]] 52)).alloc (.cells #[.slice none 0 0] 23)).alloc (.cells #[.slice A0 l0.length c0] 23)).alloc (.cells #[.slice A1 l1.length c1] 23)) :=
    ((((Below.refl _ w).alloc (Nat.le_refl _) _).alloc (by simp) _).alloc (by simp; omega) _).alloc (by simp; omega) _
  have hWA : WalkAt ((((w.alloc (.cells #[.func (.func fw) #[] #[]] 52)).alloc (.cells #[.slice none 0 0] 23)).alloc (.cells #[.slice A0 l0.length c0] 23)).alloc (.cells #[.slice A1 l1.length c1] 23)) w (w.heap.size + 1 + 1) (w.heap.size + 1 + 1 + 1) A0 A1 c0 c1 l0 l1 :=
    ⟨b1.alloc _, b2, fun k hk => hB0.block k hk⟩
  refine rangeFunc_LA (F := Fence.wide) rfl (by omega) (gf := 67) (lb := #[.pointer (some ⟨w.heap.size + 1 + 1, 0, none⟩), .pointer (some ⟨w.heap.size + 1 + 1 + 1, 0, none⟩)]) rfl trivial (enters_of Try.func67 (by kernel_rfl) rfl)
    (walk_seq (4 - 1) (by omega) w (w.heap.size + 1 + 1) (w.heap.size + 1 + 1 + 1) A0 A1 c0 c1 l0 l1 hC0 hC1 _ hWA) keptAt_t
    (fun W l o o' hl ho h1 h2 k hk => World.putObj_heap_other (by simp at hl; rcases hk with hk | hk | hk <;> omega)) (Below.refl _ _) (fun _ => rfl)
    (fun k W => (∃ v, Boxed W (w.heap.size + 1) 23 v ∧ W.ownsRow w.heap.size 3 1 v (combG g ((walkL l0 l1).take k)).length ((combG g ((walkL l0 l1).take k)).map (Value.int .i64))) ∧ Boxed W w.heap.size 52 (.func (.func fw) #[] #[]) ∧ WalkAt W w (w.heap.size + 1 + 1) (w.heap.size + 1 + 1 + 1) A0 A1 c0 c1 l0 l1 ∧ Below w.heap.size w W)
    (fun _ _ _ => False)
    (fun s X Y row hs hg hr => by
      obtain ⟨hv, hf, hw, hb⟩ := hs
      refine ⟨Own.from (holdsRow_own w.heap.size (w.heap.size + 1) 23 3 1 (fun k => (combG g ((walkL l0 l1).take k)).length) (fun k => (combG g ((walkL l0 l1).take k)).map (Value.int .i64)) (fun _ _ => True)) 0 s X Y row (by obtain ⟨v, h1, h2⟩ := hv; exact ⟨v, h1, h2, trivial⟩) hg (fun r e => ⟨Nat.zero_le _, (hr r e).2⟩) |>.elim (fun v h => ⟨v, h.1, h.2.1⟩), box_kept hf hg hr, ⟨box_kept hw.1 hg hr, box_kept hw.2.1 hg hr, fun k hk => ?_⟩, below_kept hb (Nat.le_refl _) (by simp; omega) hg hr⟩
      refine (hg.block k (Nat.lt_of_lt_of_le hk hw.size) (fun e => ?_)).trans (hw.2.2 k hk)
      have := (hr k e.symm).1
      simp at this
      omega)
    (fun _ _ _ _ _ hs _ _ => hs)
    ⟨⟨_, (bO.alloc _).alloc _, by simpa [combG] using World.ownsRow_nil _ _ _ _⟩, ((bF.alloc _).alloc _).alloc _, hWA, hB0⟩
    (fun k gb => { tmps := #[.slice A0 l0.length c0, .slice A1 l1.length c1, .func (.func fw) #[] #[], undef, undef, .pointer (some ⟨w.heap.size, 0, none⟩), .slice none 0 0, .pointer (some ⟨w.heap.size + 1, 0, none⟩), .int .i64 ((walkL l0 l1).getD k (0, false, false)).1, .pointer (some ⟨gb, 0, none⟩), .slice A0 l0.length c0, .slice A1 l1.length c1, .func (.func 67) #[] #[.pointer (some ⟨w.heap.size + 1 + 1, 0, none⟩), .pointer (some ⟨w.heap.size + 1 + 1 + 1, 0, none⟩)], .int .i64 ((walkL l0 l1).getD k (0, false, false)).1, .agg #[.bool ((walkL l0 l1).getD k (0, false, false)).2.1, .bool ((walkL l0 l1).getD k (0, false, false)).2.2], undef, undef, undef, undef, undef, undef, undef, undef], defers := [] })
    (fun k gb W => W.heap[gb]? = some (.cells #[.bool ((walkL l0 l1).getD k (0, false, false)).2.1, .bool ((walkL l0 l1).getD k (0, false, false)).2.2] 51 (0, 0)))
    (fun k gb s X Y row hs hg hr => (hg.block gb (Array.getElem?_eq_some_iff.1 hs).1 (fun e => by
      obtain ⟨_, o, ho, hc⟩ := hr gb e.symm
      rw [hs] at ho
      cases ho
      cases hc)).trans hs)
    (fun hXs hg k hk => hg.block k (by simp at hXs; rcases hk with hk | hk | hk <;> omega) (by simp)) ?assign ?body ?done ?stop
  case assign =>
    intro l k W K hk hK
    unfold encW
    generalize (walkL l0 l1).getD k (0, false, false) = E at hK ⊢
    gi_wp2
    exact hK _ _ (World.alloc_heap_new W _) (World.grownBy_alloc W _ none) (Nat.le_refl _) (by simp)
  case body =>
    rintro l k gb W hk ⟨⟨v, hv, hrow⟩, hf, hw, hb⟩ hgb hgb0 hgb1
    have hstep := combG_take g (walkL l0 l1) hk
    have hkl := combG_len g (walkL l0 l1) k
    generalize ((walkL l0 l1).getD k (0, false, false)) = E at *
    simp only [World.size_alloc] at hgb0
    have cF := hf.cell
    have cg0 : W.cell? ⟨gb, 0, none⟩ = some (.bool E.2.1) := by simp [World.cell?, hgb]
    have cg1 : W.cell? ⟨gb, 1, none⟩ = some (.bool E.2.2) := by simp [World.cell?, hgb]
    gi_wp2_with fail
    refine ⟨trivial, (CallsIn.inRound l (callsIn_wide.2 (hgw E.2.1 E.2.2 W))).mono ?_⟩
    rintro e W1 ⟨rfl, hb1⟩
    have hv1 : Boxed W1 (w.heap.size + 1) 23 v := (hb1.block _ hv.lt).trans hv
    have hf1 : Boxed W1 w.heap.size _ _ := (hb1.block _ hf.lt).trans hf
    have hrow1 := own_move hrow (fun k hk => hb1.block k (own_lt hrow k hk))
    have hk1 : KeptAt (WalkS w.heap.size (w.heap.size + 1 + 1) (w.heap.size + 1 + 1 + 1)) W W1 := fun k hk => hb1.block k (by
      have := hw.size
      have := hw.1.lt
      have := hw.2.1.lt
      rcases hk with hk | hk | hk <;> omega)
    have hw1 := hw.move hk1
    have hB1 : Below w.heap.size w W1 := hb.trans (hb1.mono hb.size)
    have hkf : ∀ B, KeepsFrom B W W1 := fun B => ⟨hb1.size, fun k o _ hk _ => (hb1.block k (Array.getElem?_eq_some_iff.1 hk).1).trans hk⟩
    have hc1 := hv1.cell
    have hmx : maxLen = 9223372036854775807 := rfl
    clear cF cg0 cg1
    by_cases hc : g E.2.1 E.2.2 = true
    · rw [if_pos hc] at hstep
      gi_wp2_with (gi_at_builtin; refine wpListIn_append_own _ rfl _ _ 23 rfl w.heap.size 3 i0 (.int .i64 0) 1 8 Try.underlying23 hi hz0 hz1 hz2 rfl (by decide) _ _ _ rfl (hrow1.alloc _) ⟨W1.heap.size, 0, none⟩ 1 1 [.int .i64 E.1] rfl rfl (cell_one_new _ _ _) (by simp [Value.oneCell']) (by omega) (by omega) (by have := hB1.size; simp; omega) ?_; intro v' w1 hown' hgrow _; obtain ⟨g', cap', rfl⟩ := ownsRow_succ hown'; obtain ⟨hv1', hv2, hr2, hk2, hb2⟩ := hv1.appended (by decide) hrow1 hB1.size (by omega) hown' hgrow; have hc1' := hv1'.cell; have hf1' := hv1'.frozen)
      · have far : ∀ b t u, Boxed W1 b t u → t ≠ 3 → b ≠ w.heap.size + 1 → (w1.setCell ⟨w.heap.size + 1, 0, none⟩ (.slice (some ⟨g', 0, none⟩) ((combG g ((walkL l0 l1).take k)).length + 1) cap')).heap[b]? = W1.heap[b]? := fun b t u hbx ht hne => by
          rw [Below.heap_setCell _ _ _ b hne]
          exact (((hbx.alloc _).kept hgrow (hbx.not_row ht hrow1)) : w1.heap[b]? = _).trans hbx.symm
        have hk3 : KeptAt (WalkS w.heap.size (w.heap.size + 1 + 1) (w.heap.size + 1 + 1 + 1)) W1 (w1.setCell ⟨w.heap.size + 1, 0, none⟩ (.slice (some ⟨g', 0, none⟩) ((combG g ((walkL l0 l1).take k)).length + 1) cap')) := by
          rintro k (hk | rfl | rfl)
          · exact hb2.block k hk
          · exact far _ _ _ hw1.1 (by decide) (by omega)
          · exact far _ _ _ hw1.2.1 (by decide) (by omega)
        exact ⟨(hkf _).trans (hk2.from _), keptAt_t hk1 hk3, ⟨_, hv2, by rw [hstep]; simpa using hr2⟩, (far _ _ _ hf1 (by decide) (by omega)).trans hf1, hw1.move hk3, hB1.trans hb2⟩
    · rw [if_neg hc, List.append_nil] at hstep
      have hc' : g E.2.1 E.2.2 = false := by simpa using hc
      gi_wp2
      exact ⟨hkf _, hk1, ⟨v, hv1, by rw [hstep]; exact hrow1⟩, hf1, hw1, hB1⟩
  case done =>
    rintro D W hD ⟨⟨v, hv, hrow⟩, hf, hw, hb⟩ hK
    have hc := hv.cell
    rw [List.take_length, h] at hrow
    gi_wp2
    refine ⟨by simp, .inl ⟨_, _, rfl, run_takeDeferred hK, ?_⟩⟩
    exact ⟨_, results_tmp rfl _ _ _, v, rfl, Kd.R_of_own (ownsRow_putObj hrow _ hK rfl) (fun _ _ => trivial), below_kept (Bnd := D) hb (Nat.le_refl _) (by simp at hD; omega) (grownBy_putObj' W D (.deferred none)) (fun r e => by cases e; exact ⟨Nat.le_refl _, _, hK, rfl⟩)⟩
  case stop =>
    rintro D c k W _ _ h _
    exact h.elim

def gAnd (p q : Bool) : Bool := p && q
def gOr (p q : Bool) : Bool := p || q
def gWithout (p q : Bool) : Bool := p && !q

set_option maxHeartbeats 1000000 in
theorem clo_and (p q : Bool) (w : World) : Calls Try.prog 42 #[.agg #[.bool p, .bool q]] w fun e w' => e = .returned (.bool (gAnd p q)) ∧ Below w.heap.size w w' := by
  have hB := (Below.refl w.heap.size w).alloc (Nat.le_refl _) (.cells #[.bool p, .bool q] 51)
  go_enter Try.func42, Try.ntmps42
  cases p <;> cases q <;> (go_wp2; go_ret; exact ⟨rfl, hB⟩)
def combined_and.f (l0 l1 : List Int) : Option (List Int) := combF gAnd l0 l1
theorem combined_and.calls (A0 : Option Addr) (c0 : Nat) (l0 : List Int) (A1 : Option Addr) (c1 : Nat) (l1 : List Int) (r : List Int) (w : World) (hr0 : Kd.C (Kd.int .i64) w A0 l0.length l0) (hc0 : l0.length ≤ c0) (hr1 : Kd.C (Kd.int .i64) w A1 l1.length l1) (hc1 : l1.length ≤ c1) (h : combined_and.f l0 l1 = some r) :
    Calls Try.prog 41 #[.slice A0 l0.length c0, .slice A1 l1.length c1, .func (.func 42) #[] #[]] w fun e w' => ∃ v0_ : Value, e = .returned v0_ ∧ Kd.R (Kd.int .i64) 3 w' w.heap.size (fun _ => True) v0_ r ∧ Below w.heap.size w w' :=
  combined_in gAnd 42 clo_and (enters_of Try.func42 (by kernel_rfl) rfl) A0 c0 l0 A1 c1 l1 r w hr0 hr1 h

set_option maxHeartbeats 1000000 in
theorem clo_or (p q : Bool) (w : World) : Calls Try.prog 44 #[.agg #[.bool p, .bool q]] w fun e w' => e = .returned (.bool (gOr p q)) ∧ Below w.heap.size w w' := by
  have hB := (Below.refl w.heap.size w).alloc (Nat.le_refl _) (.cells #[.bool p, .bool q] 51)
  go_enter Try.func44, Try.ntmps44
  cases p <;> cases q <;> (go_wp2; go_ret; exact ⟨rfl, hB⟩)
def combined_or.f (l0 l1 : List Int) : Option (List Int) := combF gOr l0 l1
theorem combined_or.calls (A0 : Option Addr) (c0 : Nat) (l0 : List Int) (A1 : Option Addr) (c1 : Nat) (l1 : List Int) (r : List Int) (w : World) (hr0 : Kd.C (Kd.int .i64) w A0 l0.length l0) (hc0 : l0.length ≤ c0) (hr1 : Kd.C (Kd.int .i64) w A1 l1.length l1) (hc1 : l1.length ≤ c1) (h : combined_or.f l0 l1 = some r) :
    Calls Try.prog 41 #[.slice A0 l0.length c0, .slice A1 l1.length c1, .func (.func 44) #[] #[]] w fun e w' => ∃ v0_ : Value, e = .returned v0_ ∧ Kd.R (Kd.int .i64) 3 w' w.heap.size (fun _ => True) v0_ r ∧ Below w.heap.size w w' :=
  combined_in gOr 44 clo_or (enters_of Try.func44 (by kernel_rfl) rfl) A0 c0 l0 A1 c1 l1 r w hr0 hr1 h

set_option maxHeartbeats 1000000 in
theorem clo_without (p q : Bool) (w : World) : Calls Try.prog 45 #[.agg #[.bool p, .bool q]] w fun e w' => e = .returned (.bool (gWithout p q)) ∧ Below w.heap.size w w' := by
  have hB := (Below.refl w.heap.size w).alloc (Nat.le_refl _) (.cells #[.bool p, .bool q] 51)
  go_enter Try.func45, Try.ntmps45
  cases p <;> cases q <;> (go_wp2; go_ret; exact ⟨rfl, hB⟩)
def combined_without.f (l0 l1 : List Int) : Option (List Int) := combF gWithout l0 l1
theorem combined_without.calls (A0 : Option Addr) (c0 : Nat) (l0 : List Int) (A1 : Option Addr) (c1 : Nat) (l1 : List Int) (r : List Int) (w : World) (hr0 : Kd.C (Kd.int .i64) w A0 l0.length l0) (hc0 : l0.length ≤ c0) (hr1 : Kd.C (Kd.int .i64) w A1 l1.length l1) (hc1 : l1.length ≤ c1) (h : combined_without.f l0 l1 = some r) :
    Calls Try.prog 41 #[.slice A0 l0.length c0, .slice A1 l1.length c1, .func (.func 45) #[] #[]] w fun e w' => ∃ v0_ : Value, e = .returned v0_ ∧ Kd.R (Kd.int .i64) 3 w' w.heap.size (fun _ => True) v0_ r ∧ Below w.heap.size w w' :=
  combined_in gWithout 45 clo_without (enters_of Try.func45 (by kernel_rfl) rfl) A0 c0 l0 A1 c1 l1 r w hr0 hr1 h
end Go.Proofs.Ytdmdhpnlalekfaa.Hand
