/- The contract of network.Send: what the Go code returns for any network and packet. No further condition. -/
import Derived.Test.YtkfplnbofgiknaaHDelays
import Derived.Test.YtkfplnbofgiknaaHClone
import Derived.Test.YtkfplnbofgiknaaIn
import Derived.Sort.CutIn
namespace Go.Proofs.Ytkfplnbofgiknaa.Hand
open Go.RowKit Go.Shelf Go.Proofs.YtkfplnbofgiknaaW.PrintWords Go.Proofs.YtkfplnbofgiknaaW.PrintMore Go.Proofs.Ytkfplnbofgiknaa.Seq Go.Proofs.Ytkfplnbofgiknaa.A
attribute [local go_sem] Oper.semAt_some
set_option linter.unusedVariables false
set_option linter.unusedSimpArgs false

/-- The flights that a packet sent at a time, with a fate, takes. -/
def sentL (now fate : Int) (p : S27) : List S44 := (dlL fate).map fun d => ⟨wrap64 (now + d), p⟩
theorem sentL_len (now fate : Int) (p : S27) : (sentL now fate p).length = (dlL fate).length := by simp [sentL]
def fateL (l : List Int) : Int := if 0 < l.length then rd l 0 else 1
def network_Send.f (k : Nat) (a0_0 : Int) (l0_1 : List Int) (l0_2 : List S44) (a1_0 a1_1 : Int) (a1_2 : ByteArray) : Option (Int × List Int × List S44 × Int) :=
  (network_Check.f k a0_0 l0_1 l0_2).bind fun t => if t = 0 then
    ((network_checkPacket.f k a1_0 a1_1 a1_2).bind fun e => if e = 0 then
      (if l0_2.length < 1759218604441 then (if 1000 < (l0_2 ++ sentL a0_0 (fateL l0_1) ⟨a1_0, a1_1, a1_2⟩).length then some (0, [], [], 18) else some (a0_0, l0_1.drop 1, l0_2 ++ sentL a0_0 (fateL l0_1) ⟨a1_0, a1_1, a1_2⟩, 0)) else none)
      else some (0, [], [], e)) else some (0, [], [], 1)
theorem put3 {W : World} {g t : Nat} {a b c : Value} (h : W.heap[g]? = some (.cells #[a, b, c] t (0, 0))) (x y z : Value) : (((W.setCell ⟨g, 0, none⟩ x).setCell ⟨g, 1, none⟩ y).setCell ⟨g, 2, none⟩ z).heap[g]? = some (.cells #[x, y, z] t (0, 0)) :=
  blk_put (cs := #[x, y, c]) (blk_put (cs := #[x, b, c]) (blk_put (cs := #[a, b, c]) h 0 _ rfl) 1 _ rfl) 2 _ rfl
theorem below3 {w W : World} {g : Nat} (h : Below w.heap.size w W) (hg : w.heap.size ≤ g) (x y z : Value) : Below w.heap.size w (((W.setCell ⟨g, 0, none⟩ x).setCell ⟨g, 1, none⟩ y).setCell ⟨g, 2, none⟩ z) :=
  ((h.setCell (p := ⟨g, 0, none⟩) hg _).setCell (p := ⟨g, 1, none⟩) hg _).setCell (p := ⟨g, 2, none⟩) hg _
theorem network_Send.mono : ∀ a0 a1 a2 a3 a4 a5 k, LeO (network_Send.f k a0 a1 a2 a3 a4 a5) (network_Send.f (k + 1) a0 a1 a2 a3 a4 a5) := by
  intro a0 a1 a2 a3 a4 a5 k
  unfold network_Send.f
  refine LeO.bind (network_Check.mono _ _ _ _) (fun t => ?_)
  split
  · refine LeO.bind (network_checkPacket.mono _ _ _ _) (fun e => ?_)
    exact LeO.refl _
  · exact LeO.refl _

set_option maxRecDepth 100000 in
set_option maxHeartbeats 8000000 in
theorem network_Send.calls (k : Nat) (a0_0 : Int) (P0_1_ : Nat → Prop) (A0_1 : Option Addr) (c0_1 : Nat) (l0_1 : List Int) (A0_2 : Option Addr) (c0_2 : Nat) (l0_2 : List (S44)) (a1_0 : Int) (a1_1 : Int) (a1_2 : ByteArray) (r1 : Int) (r2 : List Int) (r3 : List (S44)) (r4 : Int) (w : World) (hs0_1 : Kd.V (Kd.int .i64) 3 w w.heap.size (fun k_ => P0_1_ k_) (.slice A0_1 l0_1.length c0_1) l0_1) (hr0_2 : Kd.C k44 w A0_2 l0_2.length l0_2) (hc0_2 : l0_2.length ≤ c0_2) (h : network_Send.f k a0_0 l0_1 l0_2 a1_0 a1_1 a1_2 = some (r1, r2, r3, r4)) :
    Calls Try.prog 12 #[.agg #[.int .i64 a0_0, .slice A0_1 l0_1.length c0_1, .slice A0_2 l0_2.length c0_2], .agg #[.int .i64 a1_0, .int .i64 a1_1, .string a1_2]] w fun e w' => ∃ v1_ v2_ : Value, e = .returned (.tuple #[.agg #[.int .i64 r1, v1_, v2_], .int .i64 r4]) ∧ Kd.V (Kd.int .i64) 3 w' w.heap.size (fun k_ => (P0_1_ k_ ∨ w.heap.size ≤ k_) ∧ some k_ ≠ (v2_ : Value).ownBlock) v1_ r2 ∧ Kd.R k44 44 w' w.heap.size (fun k_ => (w.heap.size ≤ k_)) v2_ r3 ∧ Below w.heap.size w w' := by
  unfold network_Send.f at h
  replace h := Option.bind_eq_some_iff.1 h
  obtain ⟨t, ht, h⟩ := h
  have hV := Aside0.mk (Kd.V_bound hs0_1)
  have hF := Kd.V_reads' hs0_1
  have HF := Aside0.mk hF.2.2
  have hcF := hF.2.1
  have HR := Aside0.mk hr0_2
  clear hs0_1 hF hr0_2
  have HT := Aside0.mk ht
  clear ht
  obtain ⟨W3, hW3⟩ : ∃ W3, W3 = ((w.alloc (.cells #[.int .i64 a0_0, .slice A0_1 l0_1.length c0_1, .slice A0_2 l0_2.length c0_2] 25)).alloc (.cells #[.int .i64 a1_0, .int .i64 a1_1, .string a1_2] 27)).alloc (.cells #[.int .i64 0, .slice none 0 0, .slice none 0 0] 25) := ⟨_, rfl⟩
  have hB3 : Below w.heap.size w W3 := by rw [hW3]; exact (((Below.refl _ w).alloc (Nat.le_refl _) _).alloc (by simp) _).alloc (by simp; omega) _
  have hs3 : W3.heap.size = w.heap.size + 3 := by rw [hW3]; simp
  have k30 : W3.heap[w.heap.size]? = some (.cells #[.int .i64 a0_0, .slice A0_1 l0_1.length c0_1, .slice A0_2 l0_2.length c0_2] 25 (0, 0)) := by rw [hW3]; exact blk_alloc (blk_alloc (World.alloc_heap_new w _) _) _
  have k31 : W3.heap[w.heap.size + 1]? = some (.cells #[.int .i64 a1_0, .int .i64 a1_1, .string a1_2] 27 (0, 0)) := by rw [hW3]; have := World.alloc_heap_new (w.alloc (.cells #[.int .i64 a0_0, .slice A0_1 l0_1.length c0_1, .slice A0_2 l0_2.length c0_2] 25)) (.cells #[.int .i64 a1_0, .int .i64 a1_1, .string a1_2] 27); rw [World.size_alloc] at this; exact blk_alloc this _
  have k32 : W3.heap[w.heap.size + 1 + 1]? = some (.cells #[.int .i64 0, .slice none 0 0, .slice none 0 0] 25 (0, 0)) := by rw [hW3]; have := World.alloc_heap_new ((w.alloc (.cells #[.int .i64 a0_0, .slice A0_1 l0_1.length c0_1, .slice A0_2 l0_2.length c0_2] 25)).alloc (.cells #[.int .i64 a1_0, .int .i64 a1_1, .string a1_2] 27)) (.cells #[.int .i64 0, .slice none 0 0, .slice none 0 0] 25); rw [World.size_alloc, World.size_alloc] at this; exact this
  have K30 := Aside0.mk k30
  have K31 := Aside0.mk k31
  have K32 := Aside0.mk k32
  have HB3 := Aside0.mk hB3
  have HS3 := Aside0.mk hs3
  have c30 := blk_cell k30 0
  have c31 := blk_cell k30 1
  have c32 := blk_cell k30 2
  clear k30 k31 k32 hB3 hs3
  refine (callsIn_wide (n := 4)).1 ?_
  refine callsIn_of_wp_marks Try.func12 rfl trivial ?_ rfl
  simp only [Try.ntmps12, List.size_toArray, List.length_cons, List.length_nil, Nat.reduceAdd, Nat.reduceSub, Array.replicate_succ, Array.replicate_zero, List.push_toArray, List.append_toArray, List.nil_append, List.cons_append]
  gi_wp2_with fail
  refine ⟨trivial, (callsIn_wide.2 (network_Check.calls k a0_0 _ _ l0_1 _ _ l0_2 t _ (by rw [← hW3]; exact Kd.C_below HF.out HB3.out) hcF (by rw [← hW3]; exact Kd.C_below HR.out HB3.out) hc0_2 HT.out)).mono ?_⟩
  rintro e W4 ⟨rfl, hb4⟩
  rw [← hW3] at hb4
  have hB4 := HB3.out.trans (hb4.mono HB3.out.size)
  have hs4 : w.heap.size + 3 ≤ W4.heap.size := by have := hb4.size; have := HS3.out; omega
  have k40 := (hb4.block _ (by have := HS3.out; omega)).trans K30.out
  have k41 := (hb4.block _ (by have := HS3.out; omega)).trans K31.out
  have k42 := (hb4.block _ (by have := HS3.out; omega)).trans K32.out
  clear hb4 K30 K31 K32 HB3 HS3 c30 c31 c32 hW3 W3
  generalize hg2 : w.heap.size + 1 + 1 = g2 at *
  generalize hg1 : w.heap.size + 1 = g1 at *
  have n01 : w.heap.size ≠ g1 := by omega
  have n10 : g1 ≠ w.heap.size := by omega
  have n02 : w.heap.size ≠ g2 := by omega
  have n20 : g2 ≠ w.heap.size := by omega
  have n12 : g1 ≠ g2 := by omega
  have n21 : g2 ≠ g1 := by omega
  have l1 : w.heap.size ≤ g1 := by omega
  have l2 : w.heap.size ≤ g2 := by omega
  have l3 : g2 < W4.heap.size := by omega
  have l4 : g1 < W4.heap.size := by omega
  have l5 : w.heap.size < W4.heap.size := by omega
  have l6 : g1 < g2 := by omega
  have l7 : w.heap.size < g2 := by omega
  clear hg1 hg2
  have K40 := Aside0.mk k40
  have K41 := Aside0.mk k41
  have K42 := Aside0.mk k42
  have HB4 := Aside0.mk hB4
  have z40 := (blk_cell k42 0).trans rfl
  have f40 := blk_frozen k42 0
  have f41 := blk_frozen k42 1
  have f42 := blk_frozen k42 2
  have p40 : W4.cell? ⟨g1, 0, none⟩ = some (.int .i64 a1_0) := (blk_cell k41 0).trans rfl
  have p41 : W4.cell? ⟨g1, 1, none⟩ = some (.int .i64 a1_1) := (blk_cell k41 1).trans rfl
  have p42 : W4.cell? ⟨g1, 2, none⟩ = some (.string a1_2) := (blk_cell k41 2).trans rfl
  clear k40 k41 k42 hB4
  by_cases c1 : t = 0
  · rw [if_pos c1] at h
    have c1b : (t != 0) = false := bne_eq_false_iff_eq.mpr c1
    clear c1
    replace h := Option.bind_eq_some_iff.1 h
    obtain ⟨e, he, h⟩ := h
    have HE := Aside0.mk he
    clear he
    gi_wp2_with fail
    refine ⟨trivial, (callsIn_wide.2 (network_checkPacket.calls k a1_0 a1_1 a1_2 e _ HE.out)).mono ?_⟩
    rintro e' W5 ⟨rfl, hb5⟩
    have hB5 := Aside0.mk (HB4.out.trans (hb5.mono HB4.out.size))
    have k50 := (hb5.block _ l5).trans K40.out
    have k51 := (hb5.block _ l4).trans K41.out
    have k52 := (hb5.block _ l3).trans K42.out
    have m3 : g2 < W5.heap.size := Nat.lt_of_lt_of_le l3 hb5.size
    clear hb5 K40 K41 K42 HB4 p40 p41 p42 f40 f41 f42 z40 l3 l4 l5
    have K50 := Aside0.mk k50
    have K51 := Aside0.mk k51
    have K52 := Aside0.mk k52
    have f50 := blk_frozen k50 0
    have f51 := blk_frozen k50 1
    have f52 := blk_frozen k50 2
    have q50 : W5.cell? ⟨w.heap.size, 0, none⟩ = some (.int .i64 a0_0) := (blk_cell k50 0).trans rfl
    have q51 : W5.cell? ⟨w.heap.size, 1, none⟩ = some (.slice A0_1 l0_1.length c0_1) := (blk_cell k50 1).trans rfl
    have q52 : W5.cell? ⟨w.heap.size, 2, none⟩ = some (.slice A0_2 l0_2.length c0_2) := (blk_cell k50 2).trans rfl
    have f60 := blk_frozen k52 0
    have f61 := blk_frozen k52 1
    have f62 := blk_frozen k52 2
    have z50 := (blk_cell k52 0).trans rfl
    have z51 := (blk_cell k52 1).trans rfl
    have z52 := (blk_cell k52 2).trans rfl
    clear k50 k51 k52
    by_cases c2 : e = 0
    · rw [if_pos c2] at h
      have c2b : (e != 0) = false := bne_eq_false_iff_eq.mpr c2
      clear c2
      split at h
      case isFalse => cases h
      rename_i hlen
      have HH := Aside0.mk h
      clear h
      gi_upto_if 23 with (fail)
      gi_cut [7] from 20 (fun v7 wc => ∃ FV : Value, v7 = .int .i64 (fateL l0_1) ∧ Aside0 (Kd.V (Kd.int .i64) 3 wc w.heap.size (fun k => P0_1_ k ∧ k < w.heap.size) FV (l0_1.drop 1)) ∧ Aside0 (wc.heap[w.heap.size]? = some (.cells #[.int .i64 a0_0, FV, .slice A0_2 l0_2.length c0_2] 25 (0, 0))) ∧ Aside0 (wc.heap[g1]? = some (.cells #[.int .i64 a1_0, .int .i64 a1_1, .string a1_2] 27 (0, 0))) ∧ Aside0 (wc.heap[g2]? = some (.cells #[.int .i64 0, .slice none 0 0, .slice none 0 0] 25 (0, 0))) ∧ Aside0 (Below w.heap.size w wc) ∧ g2 < wc.heap.size)
      case first =>
        have hV5 := Aside0.mk (Kd.V_step hV.out (fun k hk hlt => hB5.out.block k hlt))
        by_cases c3 : 0 < l0_1.length
        · have c3a : decide (0 < l0_1.length) = true := decide_eq_true c3
          have hf : fateL l0_1 = rd l0_1 0 := if_pos c3
          obtain ⟨ad, rfl, hx⟩ := Kd.at_int (Kd.C_below HF.out hB5.out) 0 (by omega) (by omega)
          rw [show ((0 : Int)).toNat = 0 from rfl, Addr.add_zero'] at hx
          obtain ⟨i0, hi, hz0, hz1, hz2⟩ := info_parts infoI
          have hcut := cut_from (P := Try.prog) 22 3 .i64 Try.underlying22 hi 1 hz1 (some ad) l0_1.length c0_1 1 (by omega) (by omega)
          have hr := Kd.F_cut (m := (1 : Int).toNat) (c := c0_1) (Kd.V_at hV5.out).2.2 (by omega) hcF
          obtain ⟨A1, hA1⟩ : ∃ A1, A1 = (if c0_1 = (1 : Int).toNat then (some ad) else ((some ad) : Option Addr).map (·.add ((1 : Int).toNat * 1))) := ⟨_, rfl⟩
          obtain ⟨c1, hc1⟩ : ∃ c1, c1 = c0_1 - (1 : Int).toNat := ⟨_, rfl⟩
          have hy : (l0_1.drop 1).length = l0_1.length - (1 : Int).toNat := by rw [List.length_drop]; rfl
          have hc1' : (l0_1.drop 1).length ≤ c1 := by rw [hy, hc1]; exact Nat.sub_le_sub_right hcF _
          rw [← hy, ← hA1, ← hc1] at hcut
          have hr2 : Kd.F (Kd.int .i64) W5 (fun k => P0_1_ k ∧ k < w.heap.size) A1 (l0_1.drop 1).length (l0_1.drop 1) := by rw [hA1]; exact hr
          have hV6 : Aside0 (Kd.V (Kd.int .i64) 3 W5 w.heap.size (fun k => P0_1_ k ∧ k < w.heap.size) (.slice A1 (l0_1.length - 1) c1) (l0_1.drop 1)) := ⟨by have h0 := Kd.V_mk (e := 3) (base := w.heap.size) hc1' hr2; rw [hy] at h0; exact h0⟩
          clear hr hr2 hi hz0 hz1 hz2 hA1 hc1
          have HY := Aside0.mk hy
          clear hy
          gi_wp2
          gi_meet
          case rel => exact ⟨_, by rw [hf], ⟨Kd.V_far (p := ⟨w.heap.size, 1, none⟩) hV6.out (fun k hk => by have := hk.2; simp; omega) _⟩, ⟨blk_put (cs := #[.int .i64 a0_0, .slice (some ad) l0_1.length c0_1, .slice A0_2 l0_2.length c0_2]) K50.out 1 _ rfl⟩, ⟨(Below.heap_setCell _ _ _ g1 n10).trans K51.out⟩, ⟨(Below.heap_setCell _ _ _ g2 n20).trans K52.out⟩, ⟨hB5.out.setCell (p := ⟨w.heap.size, 1, none⟩) (Nat.le_refl _) _⟩, by simpa using m3⟩
        · have c3a : decide (0 < l0_1.length) = false := decide_eq_false c3
          have hf : fateL l0_1 = 1 := if_neg c3
          obtain rfl : l0_1 = [] := by cases l0_1 with | nil => rfl | cons x l => simp at c3
          gi_wp2
          gi_meet
          case rel => exact ⟨_, by rw [hf], hV5, K50, K51, K52, hB5, m3⟩
      case rest =>
        obtain ⟨FV, rfl, hV6, K60, K61, K62, hB6, m6⟩ := hcut
        generalize l0_1.drop 1 = LD at *
        obtain ⟨AF, cF, hFV⟩ := Kd.V_slice hV6.out
        clear K50 K51 K52 hB5 m3 f50 f51 f52 q50 q51 q52 f60 f61 f62 z50 z51 z52
        have m7 : g1 < wc.heap.size := by omega
        have m8 : w.heap.size < wc.heap.size := by omega
        have q60 : wc.cell? ⟨w.heap.size, 2, none⟩ = some (.slice A0_2 l0_2.length c0_2) := (blk_cell K60.out 2).trans rfl
        gi_wp2_with fail
        refine ⟨trivial, (callsIn_wide.2 (clone_flight.calls A0_2 c0_2 l0_2 l0_2 _ (Kd.C_below HR.out hB6.out) hc0_2 (if_pos hlen))).mono ?_⟩
        rintro e' W7 ⟨FL, rfl, ho7, hb7⟩
        obtain ⟨A7, c7, rfl⟩ := Kd.R_slice ho7
        have hB7 := Aside0.mk (hB6.out.trans (hb7.mono hB6.out.size))
        have k70 := (hb7.block _ m8).trans K60.out
        have k71 := (hb7.block _ m7).trans K61.out
        have k72 := (hb7.block _ m6).trans K62.out
        have hV7 := Aside0.mk (Kd.V_below hV6.out hb7)
        have m9 : wc.heap.size ≤ W7.heap.size := hb7.size
        have hO7 := Aside0.mk (Kd.R_lower ho7 hB6.out.size)
        clear hb7 K60 K61 K62 hB6 hV6 q60 ho7
        have m6' : g2 < W7.heap.size := by omega
        have m7' : g1 < W7.heap.size := by omega
        have m8' : w.heap.size < W7.heap.size := by omega
        clear m6 m7 m8
        gi_wp2_with fail
        refine ⟨trivial, (delays_in _ (fateL l0_1) _).mono ?_⟩
        rintro e' w' ⟨rfl, rfl⟩
        simp only [World.size_alloc]
        have n7 := Boxed.new W7 23 (.slice A7 l0_2.length c7)
        have n8 := Boxed.new (W7.alloc (.cells #[.slice A7 l0_2.length c7] 23)) 3 (.int .i64 (fateL l0_1))
        simp only [World.size_alloc] at n8
        have hb8 : Below W7.heap.size W7 ((W7.alloc (.cells #[.slice A7 l0_2.length c7] 23)).alloc (.cells #[.int .i64 (fateL l0_1)] 3)) := ((Below.refl _ W7).alloc (Nat.le_refl _) _).alloc (by simp) _
        have s8 : ((W7.alloc (.cells #[.slice A7 l0_2.length c7] 23)).alloc (.cells #[.int .i64 (fateL l0_1)] 3)).heap.size = W7.heap.size + 2 := by simp
        replace n7 := n7.alloc (.cells #[.int .i64 (fateL l0_1)] 3)
        have k80 := (hb8.block _ m8').trans k70
        have k81 := (hb8.block _ m7').trans k71
        have k82 := (hb8.block _ m6').trans k72
        have hV8 := Kd.V_below hV7.out hb8
        have hO8 := Kd.R_below hO7.out hb8
        have hB8 := hB7.out.trans (hb8.mono hB7.out.size)
        generalize ((W7.alloc (.cells #[.slice A7 l0_2.length c7] 23)).alloc (.cells #[.int .i64 (fateL l0_1)] 3)) = W8 at *
        gi_wp2
        generalize hgd : W7.heap.size + 1 = gd at *
        generalize hgb : W7.heap.size = gb at *
        have j1 : w.heap.size ≤ gb := by omega
        have j2 : g1 ≠ gb := by omega
        have j3 : w.heap.size ≠ gb := by omega
        have j4 : g2 ≠ gb := by omega
        have j5 : gd ≠ gb := by omega
        have s8' : W8.heap.size = gb + 2 := s8
        clear k70 k71 k72 hb8 hB7 hV7 hO7 m9 s8
        refine rangeFunc_L (F := Fence.wide) rfl (by omega) (gf := 41) (lb := #[.pointer (some ⟨gd, 0, none⟩)]) rfl trivial (enters_of Try.func41 (by kernel_rfl) rfl)
          (delays_seq (4 - 1) (by omega) gd (fateL l0_1) W8 n8) keepBox_t (fun W l o o' hl ho h1 h2 => keepBox_b W l o o' hl ho h1 h2) (Below.refl _ _) (fun _ => rfl)
          (fun k W => (∃ v, Boxed W gb 23 v ∧ Kd.R k44 44 W w.heap.size (fun _ => True) v (l0_2 ++ (sentL a0_0 (fateL l0_1) ⟨a1_0, a1_1, a1_2⟩).take k)) ∧ Boxed W gd 3 (.int .i64 (fateL l0_1)) ∧ W.heap[w.heap.size]? = some (.cells #[.int .i64 a0_0, FV, .slice A0_2 l0_2.length c0_2] 25 (0, 0)) ∧ W.heap[g1]? = some (.cells #[.int .i64 a1_0, .int .i64 a1_1, .string a1_2] 27 (0, 0)) ∧ W.heap[g2]? = some (.cells #[.int .i64 0, .slice none 0 0, .slice none 0 0] 25 (0, 0)) ∧ Kd.V (Kd.int .i64) 3 W w.heap.size (fun k => P0_1_ k ∧ k < w.heap.size) FV LD ∧ Below w.heap.size w W)
          (fun _ _ _ => False)
          (fun s X Y row hs hg hr => by
            obtain ⟨⟨v, h1, h2⟩, h3, h4, h5, h6, h7, h8⟩ := hs
            exact ⟨⟨v, box_kept h1 hg hr, R_kept' h2 hg hr⟩, box_kept h3 hg hr, blk_kept' h4 hg hr, blk_kept' h5 hg hr, blk_kept' h6 hg hr, V_kept' h7 hg hr (fun k hk => by have := hk.2; omega), below_kept h8 (Nat.le_refl _) (by omega) hg hr⟩)
          (fun _ _ _ _ _ hs _ _ => hs)
          ⟨⟨_, n7, by simpa using hO8⟩, n8, k80, k81, k82, hV8, hB8⟩
          ?a1 ?assign ?body ?done ?stop
        case assign =>
          intro l k W K hk hK
          generalize hx : (dlL (fateL l0_1)).getD k 0 = x at *
          gi_wp2
          subst hx
          exact hK
        case body =>
          rintro l k W hk ⟨⟨v, hv, hrow⟩, hd, h0, h1, h2, hV9, hb⟩
          have hstep : (sentL a0_0 (fateL l0_1) ⟨a1_0, a1_1, a1_2⟩).take (k + 1) = (sentL a0_0 (fateL l0_1) ⟨a1_0, a1_1, a1_2⟩).take k ++ [⟨wrap64 (a0_0 + (dlL (fateL l0_1)).getD k 0), ⟨a1_0, a1_1, a1_2⟩⟩] := by
            unfold sentL
            rw [← List.map_take, take_get hk, List.map_append, List.map_take]
            rfl
          have hkl : (l0_2 ++ (sentL a0_0 (fateL l0_1) ⟨a1_0, a1_1, a1_2⟩).take k).length < 1759218604441 + 2 := by
            have := dlL_len (fateL l0_1)
            rw [List.length_append, List.length_take, sentL_len]; omega
          have HST := Aside0.mk hstep
          have HKL := Aside0.mk hkl
          clear hstep hkl
          generalize (sentL a0_0 (fateL l0_1) ⟨a1_0, a1_1, a1_2⟩).take k = T at *
          generalize (dlL (fateL l0_1)).getD k 0 = x at *
          have i1 := hv.cell
          have i2 := hv.frozen
          have i3 : W.cell? ⟨w.heap.size, 0, none⟩ = some (.int .i64 a0_0) := (blk_cell h0 0).trans rfl
          have i4 : W.cell? ⟨g1, 0, none⟩ = some (.int .i64 a1_0) := (blk_cell h1 0).trans rfl
          have i5 : W.cell? ⟨g1, 1, none⟩ = some (.int .i64 a1_1) := (blk_cell h1 1).trans rfl
          have i6 : W.cell? ⟨g1, 2, none⟩ = some (.string a1_2) := (blk_cell h1 2).trans rfl
          have hw0 := hb.size
          clear hk
          gi_wp2_with (gi_at_builtin; refine R_append_in k44 w.heap.size rfl (.tmp 38) (.tmp 45) 23 44 (.agg #[(.int .i64 0), (.int .i64 0), (.int .i64 0), (.string ⟨#[]⟩)]) 40 rfl Try.underlying23 info44 rfl (by decide) (by omega) v _ ⟨wrap64 (a0_0 + x), ⟨a1_0, a1_1, a1_2⟩⟩ [.int .i64 (wrap64 (a0_0 + x)), .int .i64 a1_0, .int .i64 a1_1, .string a1_2] (fun _ => True) (fun _ => False) rfl rfl (k44_mkM _ _ _ _) (fun _ hk => hk.elim) (fun _ _ => trivial) hrow hw0 (by have := HKL.out; omega) ?_; intro v' w1 hown' hgrow; obtain ⟨hv1', hv2, hr2, hk2, hb2⟩ := R_boxed hv (by decide) (by decide) hrow hw0 j1 hown' hgrow; have hc1' := hv1'.cell; have hf1' := hv1'.frozen; obtain ⟨A', c', rfl⟩ := Kd.R_slice hown')
          have far : ∀ (b : Nat) (cs : Array Value) (ty : TypeId), W.heap[b]? = some (.cells cs ty (0, 0)) → 44 ≠ ty → b ≠ gb → (w1.setCell ⟨gb, 0, none⟩ (.slice A' (l0_2 ++ T ++ [(⟨wrap64 (a0_0 + x), ⟨a1_0, a1_1, a1_2⟩⟩ : S44)]).length c')).heap[b]? = some (.cells cs ty (0, 0)) := fun b cs ty h ht hne =>
            (Below.heap_setCell _ _ _ b hne).trans ((hgrow.block b (by have := (Array.getElem?_eq_some_iff.1 h).1; simp; omega) (Kd.R_ne hrow h ht)).trans ((Below.heap_alloc _ _ _ (Array.getElem?_eq_some_iff.1 h).1).trans h))
          have hL : (l0_2 ++ T ++ [(⟨wrap64 (a0_0 + x), ⟨a1_0, a1_1, a1_2⟩⟩ : S44)]).length = l0_2.length + (T.length + 1) := by simp
          rw [hL] at far hv2 hr2 hk2 hb2
          exact ⟨hk2.from _, fun u hu => far _ _ _ hu (by decide) j5, ⟨_, hv2, by rw [HST.out, ← List.append_assoc]; exact hr2⟩, far _ _ _ hd (by decide) j5, far _ _ _ h0 (by decide) j3, far _ _ _ h1 (by decide) j2, far _ _ _ h2 (by decide) j4, Kd.V_step hV9 (fun k hk hlt => hb2.block k hk.2), hb.trans hb2⟩
        case done =>
          rintro D W hD ⟨⟨v, hv, hrow⟩, hd, h0, h1, h2, hV9, hb⟩ hK
          rw [List.take_of_length_le (by rw [sentL_len]; exact Nat.le_refl _)] at hrow
          subst hFV
          have d1 : D ≠ g2 := by omega
          have d2 : D ≠ w.heap.size := by omega
          have d3 : w.heap.size ≤ D := by omega
          have e1 := hv.cell
          have e2 : W.cell? ⟨w.heap.size, 0, none⟩ = some (.int .i64 a0_0) := (blk_cell h0 0).trans rfl
          have e3 : W.cell? ⟨w.heap.size, 1, none⟩ = some (.slice AF LD.length cF) := (blk_cell h0 1).trans rfl
          have e4 : W.cell? ⟨w.heap.size, 2, none⟩ = some (.slice A0_2 l0_2.length c0_2) := (blk_cell h0 2).trans rfl
          have e5 : W.cell? ⟨g2, 0, none⟩ = some (.int .i64 0) := (blk_cell h2 0).trans rfl
          have e6 : W.cell? ⟨g2, 1, none⟩ = some (.slice none 0 0) := (blk_cell h2 1).trans rfl
          have e7 : W.cell? ⟨g2, 2, none⟩ = some (.slice none 0 0) := (blk_cell h2 2).trans rfl
          have e8 := blk_frozen h0 2
          have e9 := blk_frozen h2 0
          have e10 := blk_frozen h2 1
          have e11 := blk_frozen h2 2
          obtain ⟨A9, c9, rfl⟩ := Kd.R_slice hrow
          have h := HH.out
          clear HH hD
          generalize l0_2 ++ sentL a0_0 (fateL l0_1) ⟨a1_0, a1_1, a1_2⟩ = L at *
          by_cases c4 : 1000 < L.length
          · rw [if_pos c4] at h
            cases h
            have c4b : decide ((1000 : Int) < (L.length : Int)) = true := decide_eq_true (by omega)
            have HC := Aside0.mk c4
            have c4a : decide (1000 < L.length) = true := decide_eq_true c4
            have HO := Aside0.mk hrow
            clear c4 hrow
            gi_wp2
            have hK' := (Below.heap_setCell _ ⟨g2, 2, none⟩ (.slice none 0 0) D d1).trans ((Below.heap_setCell _ ⟨g2, 1, none⟩ (.slice none 0 0) D d1).trans ((Below.heap_setCell W ⟨g2, 0, none⟩ (.int .i64 0) D d1).trans hK))
            exact ⟨by simp, .inl ⟨_, _, rfl, run_takeDeferred hK', _, results_ct rfl _ _ g2 25 #[.int .i64 0, .slice none 0 0, .slice none 0 0] (0, 0) _ rfl (blk_kept' (Bnd := D) (put3 h2 _ _ _) (grownBy_putObj' _ D _) (fun r e => by cases e; exact ⟨Nat.le_refl _, _, hK', rfl⟩)) Try.underlying25 rfl (by kernel_rfl), _, _, rfl, Kd.V_nil _ _ _ _ _, Kd.R_nil _ _ _ _ _, below_kept (Bnd := D) (below3 hb l2 _ _ _) (Nat.le_refl _) d3 (grownBy_putObj' _ D _) (fun r e => by cases e; exact ⟨Nat.le_refl _, _, hK', rfl⟩)⟩⟩
          · rw [if_neg c4] at h
            simp only [Option.some.injEq, Prod.mk.injEq] at h
            obtain ⟨q1, q2, q3, q4⟩ := h
            subst q1
            subst q2
            subst q3
            subst q4
            have c4b : decide ((1000 : Int) < (L.length : Int)) = false := decide_eq_false (by omega)
            have c4a : decide (1000 < L.length) = false := decide_eq_false c4
            have HC := Aside0.mk c4
            have HO := Aside0.mk hrow
            clear c4 hrow
            gi_wp2
            have hK' := (Below.heap_setCell _ ⟨g2, 2, none⟩ (.slice A9 L.length c9) D d1).trans ((Below.heap_setCell _ ⟨g2, 1, none⟩ (.slice AF LD.length cF) D d1).trans ((Below.heap_setCell _ ⟨g2, 0, none⟩ (.int .i64 a0_0) D d1).trans ((Below.heap_setCell W ⟨w.heap.size, 2, none⟩ (.slice A9 L.length c9) D d2).trans hK)))
            have h2' := (Below.heap_setCell W ⟨w.heap.size, 2, none⟩ (.slice A9 L.length c9) g2 n20).trans h2
            have hO := Kd.R_types (Kd.R_types (Kd.R_mono (Kd.R_bound HO.out) (fun k hk => hk.2.1)) h0 (by decide)) h2 (by decide)
            have hbF : Below w.heap.size W ((((W.setCell ⟨w.heap.size, 2, none⟩ (.slice A9 L.length c9)).setCell ⟨g2, 0, none⟩ (.int .i64 a0_0)).setCell ⟨g2, 1, none⟩ (.slice AF LD.length cF)).setCell ⟨g2, 2, none⟩ (.slice A9 L.length c9)) :=
              ((((Below.refl w.heap.size W).setCell (p := ⟨w.heap.size, 2, none⟩) (Nat.le_refl _) _).setCell (p := ⟨g2, 0, none⟩) l2 _).setCell (p := ⟨g2, 1, none⟩) l2 _).setCell (p := ⟨g2, 2, none⟩) l2 _
            have hO2 := Kd.R_step hO (w1 := ((((W.setCell ⟨w.heap.size, 2, none⟩ (.slice A9 L.length c9)).setCell ⟨g2, 0, none⟩ (.int .i64 a0_0)).setCell ⟨g2, 1, none⟩ (.slice AF LD.length cF)).setCell ⟨g2, 2, none⟩ (.slice A9 L.length c9))) (fun k hk _ => (Below.heap_setCell _ _ _ k hk.2).trans ((Below.heap_setCell _ _ _ k hk.2).trans ((Below.heap_setCell _ _ _ k hk.2).trans (Below.heap_setCell _ _ _ k hk.1.2))))
            have hV2 := Kd.V_step hV9 (fun k hk _ => hbF.block k hk.2)
            have hbw := hb.trans hbF
            have h2F := put3 h2' (.int .i64 a0_0) (.slice AF LD.length cF) (.slice A9 L.length c9)
            generalize ((((W.setCell ⟨w.heap.size, 2, none⟩ (.slice A9 L.length c9)).setCell ⟨g2, 0, none⟩ (.int .i64 a0_0)).setCell ⟨g2, 1, none⟩ (.slice AF LD.length cF)).setCell ⟨g2, 2, none⟩ (.slice A9 L.length c9)) = WF at *
            have hr' : ∀ r, some D = some r → D ≤ r ∧ ∃ o : Obj, WF.heap[r]? = some o ∧ o.isCells = false := fun r e => by cases e; exact ⟨Nat.le_refl _, _, hK', rfl⟩
            exact ⟨by simp, .inl ⟨_, _, rfl, run_takeDeferred hK', _, results_ct rfl _ _ g2 25 #[.int .i64 a0_0, .slice AF LD.length cF, .slice A9 L.length c9] (0, 0) _ rfl (blk_kept' (Bnd := D) h2F (grownBy_putObj' _ D _) hr') Try.underlying25 rfl (by kernel_rfl), _, _, rfl, Kd.V_mono (V_kept' (Bnd := D) hV2 (grownBy_putObj' _ D _) hr' (fun k hk => by have := hk.2; omega)) (fun k hk => ⟨.inl hk.1, fun e => by have := Kd.R_base hO2 k e.symm; have := hk.2; omega⟩), Kd.R_mono (R_kept' (Bnd := D) hO2 (grownBy_putObj' _ D _) hr') (fun k hk => hk.1.1), below_kept (Bnd := D) hbw (Nat.le_refl _) d3 (grownBy_putObj' _ D _) hr'⟩⟩
        case stop =>
          rintro D c k W _ _ h _
          exact h.elim
    · rw [if_neg c2] at h
      have c2b : (e != 0) = true := bne_iff_ne.mpr c2
      clear c2
      cases h
      gi_wp2
      exact ⟨_, results_ct rfl _ _ g2 25 #[.int .i64 0, .slice none 0 0, .slice none 0 0] (0, 0) _ rfl (put3 K52.out _ _ _) Try.underlying25 rfl (by kernel_rfl), _, _, rfl, Kd.V_nil _ _ _ _ _, Kd.R_nil _ _ _ _ _, below3 hB5.out l2 _ _ _⟩
  · rw [if_neg c1] at h
    have c1b : (t != 0) = true := bne_iff_ne.mpr c1
    clear c1
    cases h
    have z41 := (blk_cell K42.out 1).trans rfl
    have z42 := (blk_cell K42.out 2).trans rfl
    gi_wp2
    exact ⟨_, results_ct rfl _ _ g2 25 #[.int .i64 0, .slice none 0 0, .slice none 0 0] (0, 0) _ rfl (put3 K42.out _ _ _) Try.underlying25 rfl (by kernel_rfl), _, _, rfl, Kd.V_nil _ _ _ _ _, Kd.R_nil _ _ _ _ _, below3 HB4.out l2 _ _ _⟩
end Go.Proofs.Ytkfplnbofgiknaa.Hand
