/- The contract of network.Step: what the Go code returns for any network. No further condition. -/
import Derived.Test.YtkfplnbofgiknaaHSend
namespace Go.Proofs.Ytkfplnbofgiknaa.Hand
open Go.RowKit Go.Shelf Go.Proofs.YtkfplnbofgiknaaW.PrintWords Go.Proofs.YtkfplnbofgiknaaW.PrintMore Go.Proofs.Ytkfplnbofgiknaa.Seq Go.Proofs.Ytkfplnbofgiknaa.A
attribute [local go_sem] Oper.semAt_some
set_option linter.unusedVariables false
set_option linter.unusedSimpArgs false

theorem below3' {W : World} {n g : Nat} (hg : n ≤ g) (x y z : Value) : Below n W (((W.setCell ⟨g, 0, none⟩ x).setCell ⟨g, 1, none⟩ y).setCell ⟨g, 2, none⟩ z) :=
  (((Below.refl n W).setCell (p := ⟨g, 0, none⟩) hg _).setCell (p := ⟨g, 1, none⟩) hg _).setCell (p := ⟨g, 2, none⟩) hg _
def yesL (now : Int) (l : List S44) : List S44 := l.filter fun x => decide (x.f0 = now)
def noL (now : Int) (l : List S44) : List S44 := l.filter fun x => !decide (x.f0 = now)
def network_Step.f (k : Nat) (a0_0 : Int) (l0_1 : List Int) (l0_2 : List S44) : Option (Int × List Int × List S44 × List S27 × Int) :=
  (network_Check.f k a0_0 l0_1 l0_2).bind fun t => if t = 0 then
    (if a0_0 = 1152921504606846976 then some (0, [], [], [], 4) else if l0_2.length < 1759218604441 then some (wrap64 (a0_0 + 1), l0_1, noL (wrap64 (a0_0 + 1)) l0_2, (yesL (wrap64 (a0_0 + 1)) l0_2).map (·.f1), 0) else none)
    else some (0, [], [], [], 1)
theorem network_Step.mono : ∀ a0 a1 a2 k, LeO (network_Step.f k a0 a1 a2) (network_Step.f (k + 1) a0 a1 a2) := by
  intro a0 a1 a2 k
  unfold network_Step.f
  exact LeO.bind (network_Check.mono _ _ _ _) (fun t => LeO.refl _)

theorem yes_take {now : Int} {l : List S44} {j : Nat} (h : j < l.length) : yesL now (l.take (j + 1)) = yesL now (l.take j) ++ (if (rd_T44 l (j : Int)).f0 = now then [rd_T44 l (j : Int)] else []) := by
  have e : rd_T44 l (j : Int) = l[j] := by simp [rd_T44, List.getD, List.getElem?_eq_getElem h]
  rw [e, List.take_succ_eq_append_getElem h]
  unfold yesL
  rw [List.filter_append]
  by_cases hc : l[j].f0 = now <;> simp [hc]
theorem no_take {now : Int} {l : List S44} {j : Nat} (h : j < l.length) : noL now (l.take (j + 1)) = noL now (l.take j) ++ (if (rd_T44 l (j : Int)).f0 = now then [] else [rd_T44 l (j : Int)]) := by
  have e : rd_T44 l (j : Int) = l[j] := by simp [rd_T44, List.getD, List.getElem?_eq_getElem h]
  rw [e, List.take_succ_eq_append_getElem h]
  unfold noL
  rw [List.filter_append]
  by_cases hc : l[j].f0 = now <;> simp [hc]
theorem yes_len (now : Int) (l : List S44) (j : Nat) : (yesL now (l.take j)).length ≤ l.length := Nat.le_trans (List.length_filter_le _ _) (by rw [List.length_take]; omega)
theorem no_len (now : Int) (l : List S44) (j : Nat) : (noL now (l.take j)).length ≤ l.length := Nat.le_trans (List.length_filter_le _ _) (by rw [List.length_take]; omega)

set_option maxHeartbeats 1000000 in
theorem step_clo (d f t : Int) (s : ByteArray) (b : Nat) (now : Int) (F G : Value) (w : World) (hb : w.heap[b]? = some (.cells #[.int .i64 now, F, G] 25 (0, 0))) :
    Calls Try.prog 38 #[.agg #[.int .i64 d, .int .i64 f, .int .i64 t, .string s], .pointer (some ⟨b, 0, none⟩)] w fun e w' => e = .returned (.bool (decide (d = now))) ∧ Below w.heap.size w w' := by
  have hB := (Below.refl w.heap.size w).alloc (Nat.le_refl _) (.cells #[.int .i64 d, .int .i64 f, .int .i64 t, .string s] 44)
  have hc : w.cell? ⟨b, 0, none⟩ = some (.int .i64 now) := (blk_cell hb 0).trans rfl
  have hlt : b < w.heap.size := (Array.getElem?_eq_some_iff.1 hb).1
  have hne : b ≠ w.heap.size := by omega
  have hB' := Aside0.mk hB
  clear hB hb
  by_cases h : d = now
  · have hd : decide (d = now) = true := decide_eq_true h
    rw [hd]
    have h1 : (d == now) = true := beq_iff_eq.2 h
    clear h hd
    go_enter Try.func38, Try.ntmps38
    go_wp2
    go_ret
    exact ⟨rfl, hB'.out⟩
  · have hd : decide (d = now) = false := decide_eq_false h
    rw [hd]
    have h1 : (d == now) = false := beq_eq_false_iff_ne.2 h
    clear h hd
    go_enter Try.func38, Try.ntmps38
    go_wp2
    go_ret
    exact ⟨rfl, hB'.out⟩

set_option maxRecDepth 100000 in
set_option maxHeartbeats 8000000 in
theorem separate_step (A0 : Option Addr) (c0 : Nat) (l0 : List S44) (b : Nat) (now : Int) (F G : Value) (w : World) (hr0 : Kd.C k44 w A0 l0.length l0) (hc0 : l0.length ≤ c0) (hb : w.heap[b]? = some (.cells #[.int .i64 now, F, G] 25 (0, 0))) (hlen : l0.length < 1759218604441) :
    Calls Try.prog 37 #[.slice A0 l0.length c0, .func (.func 38) #[] #[.pointer (some ⟨b, 0, none⟩)]] w fun e w' => ∃ v1 v2 : Value, e = .returned (.tuple #[v1, v2]) ∧ Kd.R k44 44 w' w.heap.size (fun _ => True) v1 (yesL now l0) ∧ Kd.R k44 44 w' w.heap.size (fun _ => True) v2 (noL now l0) ∧ Below w.heap.size w w' := by
  have HR := Aside0.mk hr0
  have hb0 := Aside0.mk hb
  have hblt : b < w.heap.size := (Array.getElem?_eq_some_iff.1 hb).1
  clear hr0 hb
  go_enter Try.func37, Try.ntmps37
  go_wp2
  go_loopw [6, 7, 12] (fun v6 v7 v12 wr => ∃ j : Nat, j ≤ l0.length ∧ v12 = .int .i64 j ∧ Aside0 (Kd.R k44 44 wr w.heap.size (fun _ => True) v6 (yesL now (l0.take j))) ∧ Aside0 (Kd.R k44 44 wr w.heap.size (fun _ => True) v7 (noL now (l0.take j))) ∧ Aside0 (NeRow v6 v7) ∧ Aside0 (Below w.heap.size w wr)) (fun _ _ v12 _ => l0.length - (intOf v12).toNat)
  case atStart => exact ⟨0, Nat.zero_le _, rfl, ⟨Kd.R_nil _ _ _ _ _⟩, ⟨Kd.R_nil _ _ _ _ _⟩, ⟨fun k hk => by simp [Value.ownBlock] at hk⟩, ⟨Below.refl _ _⟩⟩
  case round =>
    obtain ⟨j, hj, rfl, HY, HN, HNE, HB⟩ := hrel
    by_cases cj : j < l0.length
    · have tj : decide (j < l0.length) = true := decide_eq_true cj
      obtain ⟨ad, rfl, q0, q1, q2, q3⟩ := at_T44 (Kd.C_below HR.out HB.out) (j : Int) (by omega) (by omega)
      simp only [Int.toNat_natCast] at q0 q1 q2 q3
      have HS := Aside0.mk (yes_take (now := now) cj)
      have HT := Aside0.mk (no_take (now := now) cj)
      have LY := yes_len now l0 j
      have LN := no_len now l0 j
      generalize rd_T44 l0 (j : Int) = x at *
      generalize yesL now (l0.take j) = YL at *
      generalize noL now (l0.take j) = NL at *
      have B0 : Below wr.heap.size wr (wr.alloc (.cells #[.int .i64 x.f0, .int .i64 x.f1.f0, .int .i64 x.f1.f1, .string x.f1.f2] 44)) := (Below.refl _ _).alloc (Nat.le_refl _) _
      have hwr := HB.out.size
      have hbx : (wr.alloc (.cells #[.int .i64 x.f0, .int .i64 x.f1.f0, .int .i64 x.f1.f1, .string x.f1.f2] 44)).heap[b]? = some (.cells #[.int .i64 now, F, G] 25 (0, 0)) := (B0.block b (by omega)).trans ((HB.out.block b hblt).trans hb0.out)
      have HBX := Aside0.mk hbx
      have HW := Aside0.mk (World.alloc_heap_new wr (.cells #[.int .i64 x.f0, .int .i64 x.f1.f0, .int .i64 x.f1.f1, .string x.f1.f2] 44))
      have HS0 : (wr.alloc (.cells #[.int .i64 x.f0, .int .i64 x.f1.f0, .int .i64 x.f1.f1, .string x.f1.f2] 44)).heap.size = wr.heap.size + 1 := by simp
      have HS1 := Aside0.mk HS0
      have HY0 := Aside0.mk (Kd.R_below HY.out B0)
      have HN0 := Aside0.mk (Kd.R_below HN.out B0)
      have HB0 := Aside0.mk (HB.out.trans (B0.mono hwr))
      clear B0 hbx HS0 HY HN HB
      go_wp2_with fail
      refine (step_clo x.f0 x.f1.f0 x.f1.f1 x.f1.f2 b now F G _ HBX.out).mono ?_
      rintro e W1 ⟨rfl, hb1⟩
      have hw1 := (hb1.block wr.heap.size (by have := HS1.out; omega)).trans HW.out
      have HY1 := Aside0.mk (Kd.R_below HY0.out hb1)
      have HN1 := Aside0.mk (Kd.R_below HN0.out hb1)
      have HB1 := Aside0.mk (HB0.out.trans (hb1.mono HB0.out.size))
      have z0 : W1.cell? ⟨wr.heap.size, 0, none⟩ = some (.int .i64 x.f0) := (blk_cell hw1 0).trans rfl
      have z1 : W1.cell? ⟨wr.heap.size, 1, none⟩ = some (.int .i64 x.f1.f0) := (blk_cell hw1 1).trans rfl
      have z2 : W1.cell? ⟨wr.heap.size, 2, none⟩ = some (.int .i64 x.f1.f1) := (blk_cell hw1 2).trans rfl
      have z3 : W1.cell? ⟨wr.heap.size, 3, none⟩ = some (.string x.f1.f2) := (blk_cell hw1 3).trans rfl
      clear hb1 hw1 HW HS1 HY0 HN0 HB0 HBX q0 q1 q2 q3
      by_cases ce : x.f0 = now
      · have hs := HS.out
        have ht := HT.out
        rw [if_pos ce] at hs ht
        rw [List.append_nil] at ht
        have HS' := Aside0.mk hs
        have HT' := Aside0.mk ht
        have te : decide (x.f0 = now) = true := decide_eq_true ce
        clear hs ht HS HT ce
        go_wp2_with (first | ((with_reducible refine gate_builtin (b := .append) (xs := #[.tmp 19, .tmp 21]) rfl ?_); at_builtin; refine Kd.R_append k44 (w0 := w) w.heap.size rfl (.tmp 19) (.tmp 21) 23 44 (.agg #[(.int .i64 0), (.int .i64 0), (.int .i64 0), (.string ⟨#[]⟩)]) 40 rfl Try.underlying23 info44 rfl (by decide) (by omega) u6 YL x [.int .i64 x.f0, .int .i64 x.f1.f0, .int .i64 x.f1.f1, .string x.f1.f2] (fun _ => True) (fun _ => False) rfl rfl (k44_mkM _ _ _ _) (fun _ hk => hk.elim) (fun _ _ => trivial) HY1.out HB1.out (Below.size HB1.out) (by omega) ?_; intro v1 w1 ho hb hg hat; have HO := Aside0.mk ho; have HB2 := Aside0.mk hb; have HG := Aside0.mk hg; have HAT := Aside0.mk hat; clear ho hb hg hat))
        have HU := Aside0.mk (Kd.R_grown2 HN1.out rfl HG.out (fun k hk he => HNE.out k hk he.symm))
        have HNE2 : Aside0 (NeRow v1 u7) := ⟨fun k hk => by
          rcases HAT.out with h | ⟨b', h, hle⟩
          · rw [h] at hk; exact HNE.out k hk
          · rw [h] at hk; cases hk; intro he; have := Kd.R_lt HN1.out _ he; omega⟩
        clear HG HAT
        go_roundw
        case rel => exact ⟨j + 1, by omega, by go_num, ⟨by rw [HS'.out]; exact HO.out⟩, ⟨by rw [HT'.out]; exact HU.out⟩, HNE2, HB2⟩
        case measure => simp [intOf]; omega
      · have hs := HS.out
        have ht := HT.out
        rw [if_neg ce] at hs ht
        rw [List.append_nil] at hs
        have HS' := Aside0.mk hs
        have HT' := Aside0.mk ht
        have te : decide (x.f0 = now) = false := decide_eq_false ce
        clear hs ht HS HT ce
        go_wp2_with (first | ((with_reducible refine gate_builtin (b := .append) (xs := #[.tmp 23, .tmp 25]) rfl ?_); at_builtin; refine Kd.R_append k44 (w0 := w) w.heap.size rfl (.tmp 23) (.tmp 25) 23 44 (.agg #[(.int .i64 0), (.int .i64 0), (.int .i64 0), (.string ⟨#[]⟩)]) 40 rfl Try.underlying23 info44 rfl (by decide) (by omega) u7 NL x [.int .i64 x.f0, .int .i64 x.f1.f0, .int .i64 x.f1.f1, .string x.f1.f2] (fun _ => True) (fun _ => False) rfl rfl (k44_mkM _ _ _ _) (fun _ hk => hk.elim) (fun _ _ => trivial) HN1.out HB1.out (Below.size HB1.out) (by omega) ?_; intro v1 w1 ho hb hg hat; have HO := Aside0.mk ho; have HB2 := Aside0.mk hb; have HG := Aside0.mk hg; have HAT := Aside0.mk hat; clear ho hb hg hat))
        have HU := Aside0.mk (Kd.R_grown2 HY1.out rfl HG.out (fun k hk he => HNE.out k he.symm hk))
        have HNE2 : Aside0 (NeRow u6 v1) := ⟨fun k hk => by
          intro he
          rcases HAT.out with h | ⟨b', h, hle⟩
          · rw [h] at he; exact HNE.out k hk he
          · rw [h] at he; cases he; have := Kd.R_lt HY1.out _ hk; omega⟩
        clear HG HAT
        go_roundw
        case rel => exact ⟨j + 1, by omega, by go_num, ⟨by rw [HS'.out]; exact HU.out⟩, ⟨by rw [HT'.out]; exact HO.out⟩, HNE2, HB2⟩
        case measure => simp [intOf]; omega
    · have tj : decide (j < l0.length) = false := decide_eq_false cj
      have e : l0.take j = l0 := List.take_of_length_le (by omega)
      rw [e] at HY HN
      go_wp2
      go_ret2
      exact ⟨_, _, rfl, HY.out, HN.out, HB.out⟩
set_option maxRecDepth 100000 in
set_option maxHeartbeats 8000000 in
theorem network_Step.calls (k : Nat) (a0_0 : Int) (P0_1_ : Nat → Prop) (A0_1 : Option Addr) (c0_1 : Nat) (l0_1 : List Int) (A0_2 : Option Addr) (c0_2 : Nat) (l0_2 : List (S44)) (r1 : Int) (r2 : List Int) (r3 : List (S44)) (r4 : List (S27)) (r5 : Int) (w : World) (hs0_1 : Kd.V (Kd.int .i64) 3 w w.heap.size (fun k_ => P0_1_ k_) (.slice A0_1 l0_1.length c0_1) l0_1) (hr0_2 : Kd.C k44 w A0_2 l0_2.length l0_2) (hc0_2 : l0_2.length ≤ c0_2) (h : network_Step.f k a0_0 l0_1 l0_2 = some (r1, r2, r3, r4, r5)) :
    Calls Try.prog 22 #[.agg #[.int .i64 a0_0, .slice A0_1 l0_1.length c0_1, .slice A0_2 l0_2.length c0_2]] w fun e w' => ∃ v1_ v2_ v3_ : Value, e = .returned (.tuple #[.agg #[.int .i64 r1, v1_, v2_], v3_, .int .i64 r5]) ∧ Kd.V (Kd.int .i64) 3 w' w.heap.size (fun k_ => (P0_1_ k_ ∨ w.heap.size ≤ k_) ∧ some k_ ≠ (v2_ : Value).ownBlock ∧ some k_ ≠ (v3_ : Value).ownBlock) v1_ r2 ∧ Kd.R k44 44 w' w.heap.size (fun k_ => (w.heap.size ≤ k_)) v2_ r3 ∧ Kd.R k27 27 w' w.heap.size (fun k_ => (w.heap.size ≤ k_)) v3_ r4 ∧ Below w.heap.size w w' := by
  unfold network_Step.f at h
  replace h := Option.bind_eq_some_iff.1 h
  obtain ⟨t, ht, h⟩ := h
  have hV := Aside0.mk (Kd.V_bound hs0_1)
  have hF := Kd.V_reads' hs0_1
  have HF := Aside0.mk hF.2.2
  have hcF := hF.2.1
  have HR := Aside0.mk hr0_2
  clear hs0_1 hF hr0_2
  have HT := Aside0.mk ht
  clear ht
  obtain ⟨W3, hW3⟩ : ∃ W3, W3 = (w.alloc (.cells #[.int .i64 a0_0, .slice A0_1 l0_1.length c0_1, .slice A0_2 l0_2.length c0_2] 25)).alloc (.cells #[.int .i64 0, .slice none 0 0, .slice none 0 0] 25) := ⟨_, rfl⟩
  have hB3 : Below w.heap.size w W3 := by rw [hW3]; exact ((Below.refl _ w).alloc (Nat.le_refl _) _).alloc (by simp) _
  have hs3 : W3.heap.size = w.heap.size + 2 := by rw [hW3]; simp
  have k30 : W3.heap[w.heap.size]? = some (.cells #[.int .i64 a0_0, .slice A0_1 l0_1.length c0_1, .slice A0_2 l0_2.length c0_2] 25 (0, 0)) := by rw [hW3]; exact blk_alloc (World.alloc_heap_new w _) _
  have k31 : W3.heap[w.heap.size + 1]? = some (.cells #[.int .i64 0, .slice none 0 0, .slice none 0 0] 25 (0, 0)) := by rw [hW3]; have := World.alloc_heap_new (w.alloc (.cells #[.int .i64 a0_0, .slice A0_1 l0_1.length c0_1, .slice A0_2 l0_2.length c0_2] 25)) (.cells #[.int .i64 0, .slice none 0 0, .slice none 0 0] 25); rw [World.size_alloc] at this; exact this
  have K30 := Aside0.mk k30
  have K31 := Aside0.mk k31
  have HB3 := Aside0.mk hB3
  have HS3 := Aside0.mk hs3
  clear k30 k31 hB3 hs3
  go_enter Try.func22, Try.ntmps22
  go_wp2_with fail
  refine (network_Check.calls k a0_0 _ _ l0_1 _ _ l0_2 t _ (by rw [← hW3]; exact Kd.C_below HF.out HB3.out) hcF (by rw [← hW3]; exact Kd.C_below HR.out HB3.out) hc0_2 HT.out).mono ?_
  rintro e W4 ⟨rfl, hb4⟩
  rw [← hW3] at hb4
  have hB4 := HB3.out.trans (hb4.mono HB3.out.size)
  have hs4 : w.heap.size + 2 ≤ W4.heap.size := by have := hb4.size; have := HS3.out; omega
  have k40 := (hb4.block _ (by have := HS3.out; omega)).trans K30.out
  have k41 := (hb4.block _ (by have := HS3.out; omega)).trans K31.out
  clear hb4 K30 K31 HB3 HS3 hW3 W3
  generalize hg1 : w.heap.size + 1 = g1 at *
  have n01 : w.heap.size ≠ g1 := by omega
  have n10 : g1 ≠ w.heap.size := by omega
  have l1 : w.heap.size ≤ g1 := by omega
  have l4 : g1 < W4.heap.size := by omega
  have l5 : w.heap.size < W4.heap.size := by omega
  clear hg1 hs4
  have K40 := Aside0.mk k40
  have K41 := Aside0.mk k41
  have HB4 := Aside0.mk hB4
  have p40 : W4.cell? ⟨w.heap.size, 0, none⟩ = some (.int .i64 a0_0) := (blk_cell k40 0).trans rfl
  have p41 : W4.cell? ⟨w.heap.size, 1, none⟩ = some (.slice A0_1 l0_1.length c0_1) := (blk_cell k40 1).trans rfl
  have p42 : W4.cell? ⟨w.heap.size, 2, none⟩ = some (.slice A0_2 l0_2.length c0_2) := (blk_cell k40 2).trans rfl
  have z40 := (blk_cell k41 0).trans rfl
  have z41 := (blk_cell k41 1).trans rfl
  have z42 := (blk_cell k41 2).trans rfl
  have f40 := blk_frozen k41 0
  have f41 := blk_frozen k41 1
  have f42 := blk_frozen k41 2
  have f43 := blk_frozen k40 0
  have f44 := blk_frozen k40 2
  clear k40 k41 hB4
  by_cases c1 : t = 0
  · rw [if_pos c1] at h
    have c1b : (t != 0) = false := bne_eq_false_iff_eq.mpr c1
    clear c1
    by_cases c2 : a0_0 = 1152921504606846976
    · rw [if_pos c2] at h
      have c2b : (a0_0 == 1152921504606846976) = true := beq_iff_eq.2 c2
      clear c2
      cases h
      go_wp2
      refine bodyPost_ret (results_ctt rfl _ _ g1 25 #[.int .i64 0, .slice none 0 0, .slice none 0 0] (0, 0) _ rfl (put3 K41.out _ _ _) Try.underlying25 rfl (by kernel_rfl)) rfl ?_
      exact ⟨_, _, _, rfl, Kd.V_nil _ _ _ _ _, Kd.R_nil _ _ _ _ _, Kd.R_nil _ _ _ _ _, below3 HB4.out l1 _ _ _⟩
    · rw [if_neg c2] at h
      have c2b : (a0_0 == 1152921504606846976) = false := beq_eq_false_iff_ne.2 c2
      clear c2
      split at h
      case isFalse => cases h
      rename_i hlen
      have HH := Aside0.mk h
      clear h
      have k50 := blk_put (cs := #[.int .i64 a0_0, .slice A0_1 l0_1.length c0_1, .slice A0_2 l0_2.length c0_2]) K40.out 0 (.int .i64 (wrap64 (a0_0 + 1))) rfl
      have hb5 : Below w.heap.size W4 (W4.setCell ⟨w.heap.size, 0, none⟩ (.int .i64 (wrap64 (a0_0 + 1)))) := (Below.refl _ W4).setCell (p := ⟨w.heap.size, 0, none⟩) (Nat.le_refl _) _
      have k51 := (Below.heap_setCell W4 ⟨w.heap.size, 0, none⟩ (.int .i64 (wrap64 (a0_0 + 1))) g1 n10).trans K41.out
      have K50 := Aside0.mk k50
      have K51 := Aside0.mk k51
      have HB5 := Aside0.mk (HB4.out.trans hb5)
      clear k50 k51 hb5
      go_wp2_with fail
      refine (separate_step A0_2 c0_2 l0_2 w.heap.size (wrap64 (a0_0 + 1)) (.slice A0_1 l0_1.length c0_1) (.slice A0_2 l0_2.length c0_2) _ (Kd.C_below HR.out HB5.out) hc0_2 K50.out hlen).mono ?_
      rintro e W6 ⟨vy, vn, rfl, hy, hn, hb6⟩
      have hW5 : w.heap.size ≤ (W4.setCell ⟨w.heap.size, 0, none⟩ (.int .i64 (wrap64 (a0_0 + 1)))).heap.size := HB5.out.size
      have k60 := (hb6.block _ (Array.getElem?_eq_some_iff.1 K50.out).1).trans K50.out
      have k61 := (hb6.block _ (Array.getElem?_eq_some_iff.1 K51.out).1).trans K51.out
      have HB6 := HB5.out.trans (hb6.mono hW5)
      have hy6 := Kd.R_lower hy hW5
      have hn6 := Kd.R_lower hn hW5
      obtain ⟨AY, cY, rfl⟩ := Kd.R_slice hy6
      obtain ⟨AN, cN, rfl⟩ := Kd.R_slice hn6
      have LY : (yesL (wrap64 (a0_0 + 1)) l0_2).length ≤ l0_2.length := List.length_filter_le _ _
      clear hy hn hb6 hW5 K50 K51 HB5 p40 p41 p42 z40 z41 z42 f40 f41 f42 f43 f44 K40 K41 HB4 l4 l5
      generalize yesL (wrap64 (a0_0 + 1)) l0_2 = Y at *
      generalize noL (wrap64 (a0_0 + 1)) l0_2 = N at *
      have k70 := blk_put (cs := #[.int .i64 (wrap64 (a0_0 + 1)), .slice A0_1 l0_1.length c0_1, .slice A0_2 l0_2.length c0_2]) k60 2 (.slice AN N.length cN) rfl
      have k71 := (Below.heap_setCell W6 ⟨w.heap.size, 2, none⟩ (.slice AN N.length cN) g1 n10).trans k61
      have hy7 := Kd.R_set hy6 k60 (by decide) 2 (.slice AN N.length cN)
      have hn7 := Kd.R_set hn6 k60 (by decide) 2 (.slice AN N.length cN)
      have hb7 : Below w.heap.size W6 (W6.setCell ⟨w.heap.size, 2, none⟩ (.slice AN N.length cN)) := (Below.refl _ W6).setCell (p := ⟨w.heap.size, 2, none⟩) (Nat.le_refl _) _
      have f60 := blk_frozen k60 2
      have z60 : W6.cell? ⟨w.heap.size, 2, none⟩ = some (.slice A0_2 l0_2.length c0_2) := (blk_cell k60 2).trans rfl
      have K70 := Aside0.mk k70
      have K71 := Aside0.mk k71
      have HY7 := Aside0.mk hy7
      have HN7 := Aside0.mk hn7
      have HB7 := Aside0.mk (HB6.trans hb7)
      have HV7 := Aside0.mk (Kd.V_step hV.out (fun k hk _ => (HB6.trans hb7).block k hk.2))
      clear k70 k71 hy7 hn7 hb7 k60 k61 HB6 hy6 hn6
      go_wp2
      go_loopw [7, 33] (fun v7 v33 wr => ∃ j : Nat, j ≤ Y.length ∧ v33 = .int .i64 j ∧ Aside0 (Kd.R k27 27 wr w.heap.size (fun _ => True) v7 ((Y.take j).map (·.f1))) ∧ Aside0 (Kd.R k44 44 wr w.heap.size (fun _ => True) (.slice AY Y.length cY) Y) ∧ Aside0 (Kd.R k44 44 wr w.heap.size (fun _ => True) (.slice AN N.length cN) N) ∧ Aside0 (wr.heap[w.heap.size]? = some (.cells #[.int .i64 (wrap64 (a0_0 + 1)), .slice A0_1 l0_1.length c0_1, .slice AN N.length cN] 25 (0, 0))) ∧ Aside0 (wr.heap[g1]? = some (.cells #[.int .i64 0, .slice none 0 0, .slice none 0 0] 25 (0, 0))) ∧ Aside0 (Kd.V (Kd.int .i64) 3 wr w.heap.size (fun k => P0_1_ k ∧ k < w.heap.size) (.slice A0_1 l0_1.length c0_1) l0_1) ∧ Aside0 (Below w.heap.size w wr)) (fun _ v33 _ => Y.length - (intOf v33).toNat)
      case atStart => exact ⟨0, Nat.zero_le _, rfl, ⟨Kd.R_nil _ _ _ _ _⟩, HY7, HN7, K70, K71, HV7, HB7⟩
      case round =>
        obtain ⟨j, hj, rfl, HP, HY, HN, K0, K1, HV, HB⟩ := hrel
        clear HY7 HN7 K70 K71 HV7 HB7
        have HYr := Aside0.mk (Kd.R_reads' HY.out).2.2
        have LJ : ((Y.take j).map (·.f1)).length ≤ l0_2.length := by rw [List.length_map, List.length_take]; omega
        by_cases cj : j < Y.length
        · have tj : decide (j < Y.length) = true := decide_eq_true cj
          obtain ⟨ad, rfl, q0, q1, q2, q3⟩ := at_T44 HYr.out (j : Int) (by omega) (by omega)
          simp only [Int.toNat_natCast] at q0 q1 q2 q3
          have hst : (Y.take (j + 1)).map (·.f1) = (Y.take j).map (·.f1) ++ [(rd_T44 Y (j : Int)).f1] := by
            have e : rd_T44 Y (j : Int) = Y[j] := by simp [rd_T44, List.getD, List.getElem?_eq_getElem cj]
            rw [e, List.take_succ_eq_append_getElem cj, List.map_append]; rfl
          have HST := Aside0.mk hst
          clear hst
          generalize rd_T44 Y (j : Int) = x at *
          generalize (Y.take j).map (·.f1) = PL at *
          have B0 : Below wr.heap.size wr (wr.alloc (.cells #[.int .i64 x.f0, .int .i64 x.f1.f0, .int .i64 x.f1.f1, .string x.f1.f2] 44)) := (Below.refl _ _).alloc (Nat.le_refl _) _
          have hwr := HB.out.size
          have HP1 := Aside0.mk (Kd.R_below HP.out B0)
          have HB1 := Aside0.mk (HB.out.trans (B0.mono hwr))
          clear B0
          go_wp2_with ((with_reducible refine gate_builtin (b := .append) (xs := #[.tmp 37, .tmp 40]) rfl ?_); at_builtin; refine Kd.R_append k27 (w0 := w) w.heap.size rfl (.tmp 37) (.tmp 40) 38 27 (.agg #[(.int .i64 0), (.int .i64 0), (.string ⟨#[]⟩)]) 32 rfl Try.underlying38 info27 rfl (by decide) (by omega) u7 PL x.f1 [.int .i64 x.f1.f0, .int .i64 x.f1.f1, .string x.f1.f2] (fun _ => True) (fun _ => False) rfl (by rw [World.size_alloc]; rfl) (k27_mkM _ _ _ _) (fun _ hk => hk.elim) (fun _ _ => trivial) HP1.out HB1.out (Below.size HB1.out) (by omega) ?_; intro v1 w1 ho hb hg hat; have HO := Aside0.mk ho; have HB2 := Aside0.mk hb; have HG := Aside0.mk hg; clear ho hb hg hat)
          have B0 : Below wr.heap.size wr (wr.alloc (.cells #[.int .i64 x.f0, .int .i64 x.f1.f0, .int .i64 x.f1.f1, .string x.f1.f2] 44)) := (Below.refl _ _).alloc (Nat.le_refl _) _
          have HY2 := Aside0.mk (Kd.R_over (Kd.R_below HY.out B0) HP1.out (by decide) HG.out)
          have HN2 := Aside0.mk (Kd.R_over (Kd.R_below HN.out B0) HP1.out (by decide) HG.out)
          have b0 := (B0.block _ (Array.getElem?_eq_some_iff.1 K0.out).1).trans K0.out
          have b1 := (B0.block _ (Array.getElem?_eq_some_iff.1 K1.out).1).trans K1.out
          have K02 := Aside0.mk (blk_grown b0 HG.out (Kd.R_ne HP1.out b0 (by decide)))
          have K12 := Aside0.mk (blk_grown b1 HG.out (Kd.R_ne HP1.out b1 (by decide)))
          have HV2 := Aside0.mk (Kd.V_step hV.out (fun k hk _ => HB2.out.block k hk.2))
          clear b0 b1 B0
          go_roundw
          case rel => exact ⟨j + 1, by omega, by go_num, ⟨by rw [HST.out]; exact HO.out⟩, HY2, HN2, K02, K12, HV2, HB2⟩
          case measure => simp [intOf]; omega
        · have tj : decide (j < Y.length) = false := decide_eq_false cj
          rw [List.take_of_length_le (by omega)] at HP
          have h := HH.out
          simp only [Option.some.injEq, Prod.mk.injEq] at h
          obtain ⟨q1, q2, q3, q4, q5⟩ := h
          subst q1
          subst q2
          subst q3
          subst q4
          subst q5
          have p0 : wr.cell? ⟨w.heap.size, 0, none⟩ = some (.int .i64 (wrap64 (a0_0 + 1))) := (blk_cell K0.out 0).trans rfl
          have p1 : wr.cell? ⟨w.heap.size, 1, none⟩ = some (.slice A0_1 l0_1.length c0_1) := (blk_cell K0.out 1).trans rfl
          have p2 : wr.cell? ⟨w.heap.size, 2, none⟩ = some (.slice AN N.length cN) := (blk_cell K0.out 2).trans rfl
          have z0 := (blk_cell K1.out 0).trans rfl
          have z1 := (blk_cell K1.out 1).trans rfl
          have z2 := (blk_cell K1.out 2).trans rfl
          have f0 := blk_frozen K1.out 0
          have f1 := blk_frozen K1.out 1
          have f2 := blk_frozen K1.out 2
          go_wp2
          have hn9 := Kd.R_types (Kd.R_mono (Kd.R_bound HN.out) (fun k hk => hk.2.1)) K1.out (by decide)
          have hp9 := Kd.R_types (Kd.R_mono (Kd.R_bound HP.out) (fun k hk => hk.2.1)) K1.out (by decide)
          have hbF : Below w.heap.size wr (((wr.setCell ⟨g1, 0, none⟩ (.int .i64 (wrap64 (a0_0 + 1)))).setCell ⟨g1, 1, none⟩ (.slice A0_1 l0_1.length c0_1)).setCell ⟨g1, 2, none⟩ (.slice AN N.length cN)) := below3' l1 _ _ _
          have hst : ∀ k, k ≠ g1 → (((wr.setCell ⟨g1, 0, none⟩ (.int .i64 (wrap64 (a0_0 + 1)))).setCell ⟨g1, 1, none⟩ (.slice A0_1 l0_1.length c0_1)).setCell ⟨g1, 2, none⟩ (.slice AN N.length cN)).heap[k]? = wr.heap[k]? := fun k hk => (Below.heap_setCell _ _ _ k hk).trans ((Below.heap_setCell _ _ _ k hk).trans (Below.heap_setCell _ _ _ k hk))
          refine bodyPost_ret (results_ctt rfl _ _ g1 25 #[.int .i64 (wrap64 (a0_0 + 1)), .slice A0_1 l0_1.length c0_1, .slice AN N.length cN] (0, 0) _ rfl (put3 K1.out _ _ _) Try.underlying25 rfl (by kernel_rfl)) rfl ?_
          refine ⟨_, _, _, rfl, Kd.V_mono (Kd.V_step HV.out (fun k hk _ => hbF.block k hk.2)) (fun k hk => ⟨.inl hk.1, fun e => by have := Kd.R_base hn9 k e.symm; have := hk.2; omega, fun e => by have := Kd.R_base hp9 k e.symm; have := hk.2; omega⟩), Kd.R_mono (Kd.R_step hn9 (fun k hk _ => hst k hk.2)) (fun k hk => hk.1), Kd.R_mono (Kd.R_step hp9 (fun k hk _ => hst k hk.2)) (fun k hk => hk.1), HB.out.trans hbF⟩
  · rw [if_neg c1] at h
    have c1b : (t != 0) = true := bne_iff_ne.mpr c1
    clear c1
    cases h
    go_wp2
    refine bodyPost_ret (results_ctt rfl _ _ g1 25 #[.int .i64 0, .slice none 0 0, .slice none 0 0] (0, 0) _ rfl (put3 K41.out _ _ _) Try.underlying25 rfl (by kernel_rfl)) rfl ?_
    exact ⟨_, _, _, rfl, Kd.V_nil _ _ _ _ _, Kd.R_nil _ _ _ _ _, Kd.R_nil _ _ _ _ _, below3 HB4.out l1 _ _ _⟩
end Go.Proofs.Ytkfplnbofgiknaa.Hand
