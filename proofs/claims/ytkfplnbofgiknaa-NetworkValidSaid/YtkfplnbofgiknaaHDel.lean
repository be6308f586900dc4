/- The contract of slices.DeleteFunc at the function of the statement Valid, which captures a network. No further condition. -/
import Derived.Test.YtkfplnbofgiknaaAx1
import Derived.Test.YtkfplnbofgiknaaWMore
import Derived.Test.YtkfplnbofgiknaaWEqStruct
import Derived.Test.YtkfplnbofgiknaaWKept
import Derived.WalkKit
import Derived.Deep.LoopGhost
import Derived.Deep.QuietTactic
import Derived.BigQuiet
import Derived.Lib.SliceRun
import Derived.RangeFuncBox
namespace Go.Proofs.Ytkfplnbofgiknaa.Hand
open Go.RowKit Go.Proofs.YtkfplnbofgiknaaW.PrintWords Go.Proofs.YtkfplnbofgiknaaW.PrintLast Go.Proofs.YtkfplnbofgiknaaW.PrintMore Go.Proofs.Ytkfplnbofgiknaa.A
set_option linter.unusedVariables false
set_option linter.unusedSimpArgs false
namespace delete_due
def due (now : Int) (x : S44) : Bool := decide (x.f0 = wrap64 (now + 1))
set_option maxHeartbeats 1000000 in
theorem closure (x : S44) (gb : Nat) (now : Int) (F G : Value) (w : World) (hb : w.heap[gb]? = some (.cells #[.int .i64 now, F, G] 25 (0, 0))) :
    Calls Try.prog 31 #[.agg #[.int .i64 x.f0, .int .i64 x.f1.f0, .int .i64 x.f1.f1, .string x.f1.f2], .pointer (some ⟨gb, 0, none⟩)] w fun e w' => e = .returned (.bool (due now x)) ∧ Below w.heap.size w w' := by
  unfold due
  have hB := (Below.refl w.heap.size w).alloc (Nat.le_refl _) (.cells #[.int .i64 x.f0, .int .i64 x.f1.f0, .int .i64 x.f1.f1, .string x.f1.f2] 44)
  have hc : w.cell? ⟨gb, 0, none⟩ = some (.int .i64 now) := (blk_cell hb 0).trans rfl
  have hlt : gb < w.heap.size := (Array.getElem?_eq_some_iff.1 hb).1
  have hne : gb ≠ w.heap.size := by omega
  have hB' := Aside0.mk hB
  clear hB hb
  by_cases h : x.f0 = wrap64 (now + 1)
  · have hd : decide (x.f0 = wrap64 (now + 1)) = true := decide_eq_true h
    rw [hd]
    have h1 : (x.f0 == wrap64 (now + 1)) = true := beq_iff_eq.2 h
    clear h hd
    go_enter Try.func31, Try.ntmps31
    go_wp2
    go_ret
    exact ⟨rfl, hB'.out⟩
  · have hd : decide (x.f0 = wrap64 (now + 1)) = false := decide_eq_false h
    rw [hd]
    have h1 : (x.f0 == wrap64 (now + 1)) = false := beq_eq_false_iff_ne.2 h
    clear h hd
    go_enter Try.func31, Try.ntmps31
    go_wp2
    go_ret
    exact ⟨rfl, hB'.out⟩
def pf (f : S44 → Bool) (l : List S44) (i : Int) : Prop := (i = -1 ∧ l.any f = false) ∨ ∃ k : Nat, ∃ h : k < l.length, i = (k : Int) ∧ (l.take k).any f = false ∧ f l[k] = true
set_option maxHeartbeats 2000000 in
set_option maxRecDepth 100000 in
theorem index (now : Int) (F G : Value) (gb : Nat) (A0 : Option Addr) (c0 : Nat) (l0 : List S44) (w : World) (hb : w.heap[gb]? = some (.cells #[.int .i64 now, F, G] 25 (0, 0))) (hr0 : Kd.C k44 w A0 l0.length l0) :
    Calls Try.prog 40 #[.slice A0 l0.length c0, .func (.func 31) #[] #[.pointer (some ⟨gb, 0, none⟩)]] w fun e w' => (∃ i : Int, e = .returned (.int .i64 i) ∧ pf (due now) l0 i) ∧ Below w.heap.size w w' := by
  have HR0 := Aside0.mk hr0
  have hlen := hr0.2.1
  have HBX := Aside0.mk hb
  clear hr0 hb
  go_enter Try.func40, Try.ntmps40
  go_wp2
  repeat (go_quiet (fail); try go_wp2)
  go_loopw [8, 5] (fun v8 v5 wr => ∃ k : Nat, k ≤ l0.length ∧ v8 = .int .i64 k ∧ Aside0 ((l0.take k).any (due now) = false) ∧ Aside0 (Below w.heap.size w wr)) (fun v8 _ _ => l0.length - (intOf v8).toNat)
  case atStart => exact ⟨0, Nat.zero_le _, rfl, ⟨by simp⟩, ⟨by repeat (first | exact Below.refl _ _ | apply pw_below_drewN)⟩⟩
  case round =>
    obtain ⟨k, hk, rfl, HP, HB⟩ := hrel
    by_cases hlt : k < l0.length
    · obtain ⟨x, hx⟩ : ∃ x : Int, x = (k : Int) := ⟨_, rfl⟩
      have p1 : 0 ≤ x := by omega
      have q1 : x < (l0.length : Int) := by omega
      obtain ⟨ad, e1, hx0, hx1, hx2, hx3⟩ := at_T44 (Kd.C_below HR0.out HB.out) x p1 q1
      cases e1
      subst hx
      clear p1 q1
      simp only [Int.toNat_natCast] at hx0 hx1 hx2 hx3
      obtain ⟨y, hy⟩ : ∃ y, y = rd_T44 l0 (k : Int) := ⟨_, rfl⟩
      have HY : Aside0 (y = l0[k]) := ⟨by rw [hy]; simp [rd_T44, List.getD, List.getElem?_eq_getElem hlt]⟩
      rw [← hy] at hx0 hx1 hx2 hx3
      have HZ := Aside0.mk hy
      clear hy
      have hcl := closure y gb now F G wr (blk_below HBX.out HB.out)
      by_cases hb : due now y = true
      · rw [hb] at hcl
        go_wp2_with fail
        refine hcl.mono ?_
        rintro e w' ⟨rfl, hbn⟩
        have HBN := Aside0.mk (below_step HB.out hbn)
        clear hbn hcl
        go_wp2
        repeat (go_quiet (fail); try go_wp2)
        go_ret
        exact ⟨⟨_, rfl, .inr ⟨k, hlt, rfl, HP.out, by rw [← HY.out]; exact hb⟩⟩, by repeat (first | exact HBN.out | apply pw_below_drewN)⟩
      · have hb : due now y = false := by simpa using hb
        rw [hb] at hcl
        go_wp2_with fail
        refine hcl.mono ?_
        rintro e w' ⟨rfl, hbn⟩
        have HBN := Aside0.mk (below_step HB.out hbn)
        clear hbn hcl
        go_wp2
        repeat (go_quiet (fail); try go_wp2)
        go_roundw
        case rel => exact ⟨k + 1, by omega, by go_num, ⟨by rw [List.take_succ_eq_append_getElem hlt, List.any_append, HP.out, ← HY.out]; simp [hb]⟩, ⟨by repeat (first | exact HBN.out | apply pw_below_drewN)⟩⟩
        case measure => simp [intOf]; omega
    · obtain rfl : k = l0.length := by omega
      go_wp2
      repeat (go_quiet (fail); try go_wp2)
      go_ret
      refine ⟨⟨_, rfl, .inl ⟨rfl, ?_⟩⟩, by repeat (first | exact HB.out | apply pw_below_drewN)⟩
      have := HP.out
      rw [List.take_length] at this
      exact this
def z4 : List Value := [.int .i64 0, .int .i64 0, .int .i64 0, .string ⟨#[]⟩]
theorem setCells_app (g : Nat) : ∀ (a b : List Value) (o : Nat) (w : World), w.setCells g o (a ++ b) = (w.setCells g o a).setCells g (o + a.length) b
  | [], _, _, _ => rfl
  | x :: a, b, o, w => by
    rw [List.cons_append, World.setCells, World.setCells, setCells_app g a b, List.length_cons]
    congr 1; omega
theorem R_row {W : World} {base g n cap : Nat} {ok : Nat → Prop} {L : List S44} (h : Kd.R k44 44 W base ok (.slice (some ⟨g, 0, none⟩) n cap) L) : ∃ cur : Array Value, W.heap[g]? = some (.cells cur 44 (0, 0)) := by
  obtain ⟨cur, hc⟩ := Kd.R_typed h g rfl
  exact ⟨cur, hc⟩
theorem add0 (g m : Nat) : (⟨g, 0, none⟩ : Addr).add m = ⟨g, m, none⟩ := by unfold Addr.add; split <;> simp_all
theorem R_cells {W : World} {base g n cap : Nat} {ok : Nat → Prop} {L : List S44} (h : Kd.R k44 44 W base ok (.slice (some ⟨g, 0, none⟩) n cap) L) (i : Nat) (hi : i < n) :
    ∃ x : S44, ∀ (j : Nat) (u : Value), [Value.int .i64 x.f0, .int .i64 x.f1.f0, .int .i64 x.f1.f1, .string x.f1.f2][j]? = some u → W.cell? ⟨g, i * 4 + j, none⟩ = some u := by
  obtain ⟨hn, _, hC⟩ := Kd.R_reads' h
  obtain ⟨ad, c, e, hl, hK, hc⟩ := Kd.C_get hC z44 (i : Int) (by omega) (by omega)
  obtain rfl := k44_open hK
  cases e
  refine ⟨L.getD ((i : Int).toNat) z44, fun j u hj => ?_⟩
  have := hc j u hj
  rw [add0] at this
  exact this
theorem R_put {W : World} {base g n cap : Nat} {ok : Nat → Prop} {L : List S44} (h : Kd.R k44 44 W base ok (.slice (some ⟨g, 0, none⟩) n cap) L) (i : Nat) (hi : i < n) (x : S44) (seg : List Value) (hs : seg = [.int .i64 x.f0, .int .i64 x.f1.f0, .int .i64 x.f1.f1, .string x.f1.f2]) :
    Kd.R k44 44 (W.setCells g (i * 4) seg) base ok (.slice (some ⟨g, 0, none⟩) n cap) (L.set i x) ∧ W.grownBy (W.setCells g (i * 4) seg) (some g) := by
  obtain ⟨y, hy⟩ := R_cells h i hi
  have := Kd.R_seg h (i : Int) (by omega) (by omega) (c := [.int .i64 y.f0, .int .i64 y.f1.f0, .int .i64 y.f1.f1, .string y.f1.f2]) (seg := seg) (j := 0) rfl hy (by rw [hs]; exact (show 0 + 4 ≤ 4 by omega)) (x' := x) (okp := fun _ => False) (by rw [hs]; exact k44_mkM _ _ _ x) (fun _ hk => hk.elim)
  exact this
theorem R_clear {base g n cap : Nat} {ok : Nat → Prop} : ∀ (m i : Nat) (W : World) (L : List S44), i + m ≤ n → Kd.R k44 44 W base ok (.slice (some ⟨g, 0, none⟩) n cap) L →
    ∃ L' : List S44, Kd.R k44 44 (W.setCells g (i * 4) (List.flatten (List.replicate m z4))) base ok (.slice (some ⟨g, 0, none⟩) n cap) L' ∧ L'.length = L.length ∧ L'.take i = L.take i ∧ W.grownBy (W.setCells g (i * 4) (List.flatten (List.replicate m z4))) (some g)
  | 0, i, W, L, _, h => ⟨L, h, rfl, rfl, World.grownBy.refl _ _⟩
  | m + 1, i, W, L, hm, h => by
    obtain ⟨h1, h2⟩ := R_put h i (by omega) z44 z4 rfl
    obtain ⟨L', h3, h4, h5, h6⟩ := R_clear m (i + 1) _ _ (by omega) h1
    have e : W.setCells g (i * 4) (List.flatten (List.replicate (m + 1) z4)) = (W.setCells g (i * 4) z4).setCells g ((i + 1) * 4) (List.flatten (List.replicate m z4)) := by
      rw [List.replicate_succ, List.flatten_cons, setCells_app]
      congr 1; simp only [z4, List.length_cons, List.length_nil]; omega
    rw [e]
    refine ⟨L', h3, by rw [h4, List.length_set], ?_, h2.trans h6⟩
    have := congrArg (List.take i) h5
    rw [List.take_take, List.take_take, Nat.min_eq_left (by omega)] at this
    rw [this, List.take_set_of_le (by omega)]
theorem zero_cells (m : Nat) : (Builtin.zeroCells #[Value.int .i64 0, .int .i64 0, .int .i64 0, .string ⟨#[]⟩] m).toList = List.flatten (List.replicate m z4) := by
  have h : ∀ m : Nat, (List.range (m * 4)).map (fun i => (#[Value.int .i64 0, .int .i64 0, .int .i64 0, .string ⟨#[]⟩] : Array Value)[i % 4]!) = List.flatten (List.replicate m z4) := by
    intro m
    induction m with
    | zero => rfl
    | succ m ih =>
      rw [show (m + 1) * 4 = m * 4 + 1 + 1 + 1 + 1 by omega, List.range_succ, List.range_succ, List.range_succ, List.range_succ]
      simp only [List.map_append, List.map_cons, List.map_nil]
      rw [ih, List.replicate_succ', List.flatten_append, show (m * 4) % 4 = 0 by omega, show (m * 4 + 1) % 4 = 1 by omega, show (m * 4 + 1 + 1) % 4 = 2 by omega, show (m * 4 + 1 + 1 + 1) % 4 = 3 by omega]
      simp [z4]
  rw [← h m]
  simp [Builtin.zeroCells]
theorem run_clear (w : World) (ty : TypeId) (b o n c : Nat) (hn : 0 < n) (hc : ∀ j, j < n * 4 → (w.cell? ⟨b, o + j, none⟩).isSome = true) (hf : ∀ j, j < n * 4 → w.frozen? ⟨b, o + j, none⟩ = false) :
    (Builtin.clear_ #[23] ty #[.slice (some ⟨b, o, none⟩) n c]).run Try.prog w = .ok (.tuple #[]) (w.setCells b o (List.flatten (List.replicate n z4))) := by
  have hl : (List.flatten (List.replicate n z4)).length = n * 4 := by
    clear hn hc hf
    induction n with
    | zero => rfl
    | succ n ih => rw [List.replicate_succ, List.flatten_cons, List.length_append, ih]; simp [z4]; omega
  have h1 : ∀ v ∈ List.flatten (List.replicate n z4), v.oneCell' = true := by
    intro v hv
    obtain ⟨l, h1, h2⟩ := List.mem_flatten.1 hv
    rw [List.eq_of_mem_replicate h1] at h2
    simp only [z4, List.mem_cons, List.not_mem_nil, or_false] at h2
    rcases h2 with rfl | rfl | rfl | rfl <;> rfl
  have hst := run_storeCells_cells (P := Try.prog) b o (List.flatten (List.replicate n z4)) 0 w (by rw [hl]; simpa using hc) (by rw [hl]; simpa using hf) h1
  simp only [Nat.add_zero] at hst
  obtain ⟨m, rfl⟩ : ∃ m, n = m + 1 := ⟨n - 1, by omega⟩
  have hz : ∀ w, (zeroValue 44).run Try.prog w = .ok (.agg #[.int .i64 0, .int .i64 0, .int .i64 0, .string ⟨#[]⟩]) w := fun w => by kernel_rfl
  have hcs : (Value.agg #[.int .i64 0, .int .i64 0, .int .i64 0, .string ⟨#[]⟩]).cells = #[Value.int .i64 0, .int .i64 0, .int .i64 0, .string ⟨#[]⟩] := rfl
  simp [Builtin.clear_, run_underlying Try.underlying23, hz, hcs, zero_cells, hst]
def f (l0 : List S44) (a0 : Int) (l1 : List Int) (l2 : List S44) : Option (List S44) := some (l0.filter fun x => !due a0 x)
theorem pf_none {now : Int} {l : List S44} (h : l.any (due now) = false) : (l.filter fun x => !due now x) = l := by
  rw [List.filter_eq_self]
  intro x hx
  rw [List.any_eq_false] at h
  simpa using h x hx
theorem kept_trans {w W W2 : World} {P : Nat → Prop} (h : Kept w W P) (k : Kept W W2 P) : Kept w W2 P := ⟨Nat.le_trans h.1 k.1, fun i hi hn => (k.2 i (Nat.lt_of_lt_of_le hi h.1) hn).trans (h.2 i hi hn)⟩
theorem kept_grown {w W W2 : World} {P : Nat → Prop} {g : Nat} (h : Kept w W P) (hP : P g) (hg : W.grownBy W2 (some g)) : Kept w W2 P := Kept.of_grown hg h (fun k e => by cases e; exact .inl hP)
set_option maxHeartbeats 8000000 in
set_option maxRecDepth 100000 in
theorem main (P0_ : Nat → Prop) (g cap : Nat) (l0 : List S44) (now : Int) (F G : Value) (gb : Nat) (w0 w : World) (hb : w.heap[gb]? = some (.cells #[.int .i64 now, F, G] 25 (0, 0))) (hB : Below w0.heap.size w0 w)
    (ho : Kd.R k44 44 w w0.heap.size P0_ (.slice (some ⟨g, 0, none⟩) l0.length cap) l0) :
    Calls Try.prog 29 #[.slice (some ⟨g, 0, none⟩) l0.length cap, .func (.func 31) #[] #[.pointer (some ⟨gb, 0, none⟩)]] w fun e w' => ∃ v0_ : Value, e = .returned v0_ ∧ Kd.R k44 44 w' w0.heap.size P0_ v0_ (l0.filter fun x => !due now x) ∧ Below w0.heap.size w0 w' ∧ Kept w w' (fun k_ => P0_ k_) := by
  have hPg : P0_ g := ho.1 g rfl
  have hbase : w0.heap.size ≤ g := Kd.R_base ho g rfl
  have HBX := Aside0.mk hb
  have HO := Aside0.mk ho
  have HB := Aside0.mk hB
  have hix := index now F G gb (some ⟨g, 0, none⟩) cap l0 w hb (Kd.R_reads' ho).2.2
  have hlen : l0.length ≤ 9223372036854775807 := (Kd.R_reads' ho).2.2.2.1
  have hcap : l0.length ≤ cap := (Kd.R_reads' ho).2.1
  clear hb ho hB
  go_enter Try.func29, Try.ntmps29
  go_wp2_with fail
  refine hix.mono ?_
  rintro e w1 ⟨⟨i0, rfl, hp⟩, hb1⟩
  have HO1 := Aside0.mk (Kd.R_below HO.out hb1)
  have HB1 := Aside0.mk (below_step HB.out hb1)
  have HK1 := Aside0.mk (Kept.of_below hb1 P0_)
  have HBX1 := Aside0.mk (blk_below HBX.out hb1)
  clear hb1 hix
  rcases hp with ⟨rfl, hp⟩ | ⟨k, hk, rfl, hp, hpk⟩
  · have hf := Aside0.mk (pf_none hp)
    clear hp
    go_wp2
    go_ret
    exact ⟨_, rfl, by rw [hf.out]; exact HO1.out, HB1.out, HK1.out⟩
  · have HP := Aside0.mk hp
    have HPK := Aside0.mk hpk
    clear hp hpk
    have hk1 : ((k : Int) == -1) = false := beq_eq_false_iff_ne.2 (by omega)
    go_wp2
    go_loopw [5, 6] (fun v5 v6 wr => ∃ (i j : Nat) (L : List S44), i < j ∧ j ≤ l0.length ∧ v5 = .int .i64 i ∧ v6 = .int .i64 j ∧ Aside0 (Kd.R k44 44 wr w0.heap.size P0_ (.slice (some ⟨g, 0, none⟩) l0.length cap) L) ∧ Aside0 (L.take i = (l0.take j).filter fun x => !due now x) ∧ Aside0 (L.drop j = l0.drop j) ∧ Aside0 (Below w0.heap.size w0 wr) ∧ Aside0 (Kept w wr P0_) ∧ Aside0 (wr.heap[gb]? = some (.cells #[.int .i64 now, F, G] 25 (0, 0)))) (fun _ v6 _ => l0.length - (intOf v6).toNat)
    case atStart =>
      refine ⟨k, k + 1, l0, by omega, by omega, rfl, by go_num, HO1, ⟨?_⟩, ⟨rfl⟩, HB1, HK1, HBX1⟩
      rw [List.take_succ_eq_append_getElem hk, List.filter_append, pf_none HP.out]
      simp [HPK.out]
    case round =>
      obtain ⟨i, j, L, hij, hj, rfl, rfl, HR, HT, HD, HB2, HK2, HBX2⟩ := hrel
      have HLn : Aside0 (l0.length = L.length) := ⟨(Kd.R_reads' HR.out).1⟩
      by_cases cj : j < l0.length
      · have tj : decide (j < l0.length) = true := decide_eq_true cj
        obtain ⟨ad, e1, q0, q1, q2, q3⟩ := at_T44 (Kd.R_reads' HR.out).2.2 (j : Int) (by omega) (by have := HLn.out; omega)
        cases e1
        simp only [Int.toNat_natCast, add0] at q0 q1 q2 q3
        have hx : rd_T44 L (j : Int) = l0[j] := by
          have h1 : L[j]? = l0[j]? := by
            have := congrArg (fun l => l[0]?) HD.out
            simpa using this
          simp [rd_T44, List.getD, h1, List.getElem?_eq_getElem cj]
        rw [hx] at q0 q1 q2 q3
        have HX := Aside0.mk (List.take_succ_eq_append_getElem cj)
        have HDX : Aside0 (l0.drop j = l0[j] :: l0.drop (j + 1)) := ⟨List.drop_eq_getElem_cons cj⟩
        clear hx
        generalize l0[j] = x at *
        have B0 : Below wr.heap.size wr (wr.alloc (.cells #[.int .i64 x.f0, .int .i64 x.f1.f0, .int .i64 x.f1.f1, .string x.f1.f2] 44)) := (Below.refl _ _).alloc (Nat.le_refl _) _
        have HR0 := Aside0.mk (Kd.R_below HR.out B0)
        have HB0 := Aside0.mk (below_step HB2.out B0)
        have HBX0 := Aside0.mk (blk_below HBX2.out B0)
        have HW := Aside0.mk (World.alloc_heap_new wr (.cells #[.int .i64 x.f0, .int .i64 x.f1.f0, .int .i64 x.f1.f1, .string x.f1.f2] 44))
        have HS0 : (wr.alloc (.cells #[.int .i64 x.f0, .int .i64 x.f1.f0, .int .i64 x.f1.f1, .string x.f1.f2] 44)).heap.size = wr.heap.size + 1 := by simp
        have HS1 := Aside0.mk HS0
        have HBB := Aside0.mk B0
        clear B0 HS0
        go_wp2_with fail
        refine (closure x gb now F G _ HBX0.out).mono ?_
        rintro e W1 ⟨rfl, hb1⟩
        have hw1 := (hb1.block wr.heap.size (by have := HS1.out; omega)).trans HW.out
        have HR1 := Aside0.mk (Kd.R_below HR0.out hb1)
        have HB3 := Aside0.mk (below_step HB0.out hb1)
        have HBX3 := Aside0.mk (blk_below HBX0.out hb1)
        have HK3 : Aside0 (Kept w W1 P0_) := ⟨kept_trans HK2.out (kept_trans (Kept.of_below HBB.out _) (Kept.of_below hb1 _))⟩
        have z0 : W1.cell? ⟨wr.heap.size, 0, none⟩ = some (.int .i64 x.f0) := (blk_cell hw1 0).trans rfl
        have z1 : W1.cell? ⟨wr.heap.size, 1, none⟩ = some (.int .i64 x.f1.f0) := (blk_cell hw1 1).trans rfl
        have z2 : W1.cell? ⟨wr.heap.size, 2, none⟩ = some (.int .i64 x.f1.f1) := (blk_cell hw1 2).trans rfl
        have z3 : W1.cell? ⟨wr.heap.size, 3, none⟩ = some (.string x.f1.f2) := (blk_cell hw1 3).trans rfl
        clear hb1 hw1 HW HS1 HR0 HB0 HBX0 q0 q1 q2 q3 HBB
        by_cases hd : due now x = true
        · rw [hd]
          have HDD := Aside0.mk hd
          clear hd
          go_wp2
          go_roundw
          case rel => exact ⟨i, j + 1, L, by omega, by omega, rfl, by go_num, HR1, ⟨by rw [HX.out, List.filter_append, HT.out]; simp [HDD.out]⟩, ⟨by
            have := congrArg (List.drop 1) HD.out
            rw [List.drop_drop, List.drop_drop] at this
            exact this⟩, HB3, HK3, HBX3⟩
          case measure => simp [intOf]; omega
        · have hd : due now x = false := by simpa using hd
          rw [hd]
          have HDD := Aside0.mk hd
          clear hd
          obtain ⟨y, hy⟩ := R_cells HR1.out i (by omega)
          have y0 : W1.cell? ⟨g, i * 4, none⟩ = some (.int .i64 y.f0) := hy 0 _ rfl
          have y1 : W1.cell? ⟨g, i * 4 + 1, none⟩ = some (.int .i64 y.f1.f0) := hy 1 _ rfl
          have y2 : W1.cell? ⟨g, i * 4 + 2, none⟩ = some (.int .i64 y.f1.f1) := hy 2 _ rfl
          have y3 : W1.cell? ⟨g, i * 4 + 3, none⟩ = some (.string y.f1.f2) := hy 3 _ rfl
          obtain ⟨cur, hcur⟩ := R_row HR1.out
          have f0 := blk_frozen hcur (i * 4)
          have f1 := blk_frozen hcur (i * 4 + 1)
          have f2 := blk_frozen hcur (i * 4 + 2)
          have f3 := blk_frozen hcur (i * 4 + 3)
          have ti : decide ((i : Int) < (l0.length : Int)) = true := decide_eq_true (by omega)
          obtain ⟨hR4, hg4⟩ := R_put HR1.out i (by omega) x _ rfl
          have HR4 := Aside0.mk hR4
          have HK4 := Aside0.mk (kept_grown HK3.out hPg hg4)
          have HB4 := Aside0.mk (HB3.out.grown hg4 HB3.out.size (fun k e => by cases e; exact hbase))
          have HBX4 := Aside0.mk (blk_grown HBX3.out hg4 (Kd.R_ne HR1.out HBX3.out (by decide)))
          clear hcur hy hR4 hg4
          go_wp2
          go_roundw
          case rel => exact ⟨i + 1, j + 1, L.set i x, by omega, by omega, by go_num, by go_num, HR4, ⟨by
            have h1 : i < L.length := by have := HLn.out; omega
            have e : (L.set i x).take (i + 1) = L.take i ++ [x] := by
              rw [List.take_succ_eq_append_getElem (by rw [List.length_set]; exact h1), List.take_set_of_le (Nat.le_refl _)]
              simp
            rw [e, HX.out, List.filter_append, HT.out]
            simp [HDD.out]⟩, ⟨by
            have := congrArg (List.drop 1) HD.out
            rw [List.drop_drop, List.drop_drop] at this
            rw [List.drop_set_of_lt (by omega)]
            exact this⟩, HB4, HK4, HBX4⟩
          case measure => simp [intOf]; omega
      · obtain rfl : j = l0.length := by omega
        obtain ⟨cur, hcur⟩ := R_row HR.out
        have hclr := run_clear wr 0 g (i * 4) (l0.length - i) (cap - i) (by omega) (fun q hq => by
          obtain ⟨y, hy⟩ := R_cells HR.out (i + q / 4) (by omega)
          have h4 : q % 4 < 4 := Nat.mod_lt _ (by omega)
          have h5 : i * 4 + q = (i + q / 4) * 4 + q % 4 := by omega
          rw [h5]
          have h6 : q % 4 = 0 ∨ q % 4 = 1 ∨ q % 4 = 2 ∨ q % 4 = 3 := by omega
          rcases h6 with h | h | h | h <;> rw [h]
          · rw [hy 0 _ rfl]; rfl
          · rw [hy 1 _ rfl]; rfl
          · rw [hy 2 _ rfl]; rfl
          · rw [hy 3 _ rfl]; rfl) (fun q _ => blk_frozen hcur (i * 4 + q))
        obtain ⟨L', h1, h2, h3, h4⟩ := R_clear (l0.length - i) i wr L (by omega) HR.out
        have HR5 := Aside0.mk (Kd.R_take h1 (m := i) (by have := HLn.out; omega))
        have HE : Aside0 (L'.take i = l0.filter fun x => !due now x) := ⟨by rw [h3, HT.out, List.take_length]⟩
        have HK5 := Aside0.mk (kept_grown HK2.out hPg h4)
        have HB5 := Aside0.mk (HB2.out.grown h4 HB2.out.size (fun k e => by cases e; exact hbase))
        clear hcur h1 h2 h3 h4
        have t1 : decide (i ≤ l0.length) = true := decide_eq_true (by omega)
        have t2 : decide (i ≤ cap) = true := decide_eq_true (by omega)
        go_wp2
        go_ret
        exact ⟨_, rfl, by rw [← HE.out]; exact HR5.out, HB5.out, HK5.out⟩
set_option maxRecDepth 100000 in
theorem calls (P0_ : Nat → Prop) (u : Value) (l0 : List S44) (a0 : Int) (A1 : Option Addr) (c1 : Nat) (l1 : List Int) (A2 : Option Addr) (c2 : Nat) (l2 r : List S44) (w0 w : World) (gb : Nat) (hb : w.heap[gb]? = some (.cells #[.int .i64 a0, .slice A1 l1.length c1, .slice A2 l2.length c2] 25 (0, 0))) (hB : Below w0.heap.size w0 w)
    (ho : Kd.R k44 44 w w0.heap.size P0_ u l0) (h : f l0 a0 l1 l2 = some r) :
    Calls Try.prog 29 #[u, .func (.func 31) #[] #[.pointer (some ⟨gb, 0, none⟩)]] w fun e w' => ∃ v0_ : Value, e = .returned v0_ ∧ Kd.R k44 44 w' w0.heap.size (fun k_ => (P0_ k_ ∨ w.heap.size ≤ k_)) v0_ r ∧ Below w0.heap.size w0 w' ∧ Kept w w' (fun k_ => P0_ k_) := by
  cases h
  have hcase : (∃ g cap, u = .slice (some ⟨g, 0, none⟩) l0.length cap) ∨ (u = .slice none 0 0 ∧ l0 = []) := by
    obtain ⟨_, inner, hown, hr⟩ := ho
    obtain ⟨A, c, e, hl⟩ := OwnRow.slice_ ⟨inner, hown, hr⟩
    rcases hown.2 with ⟨hv, hn⟩ | ⟨g, cap, cur, hv, _⟩
    · rw [e] at hv
      injection hv with e1 e2 e3
      exact .inr ⟨by rw [e, e1, e2, e3], List.eq_nil_of_length_eq_zero e2⟩
    · exact .inl ⟨g, cap, hv⟩
  rcases hcase with ⟨g, cap, rfl⟩ | ⟨rfl, rfl⟩
  · refine (main P0_ g cap l0 a0 _ _ gb w0 w hb hB ho).mono ?_
    rintro e w' ⟨v, rfl, h1, h2, h3⟩
    exact ⟨v, rfl, Kd.R_mono h1 (fun _ hk => .inl hk), h2, h3⟩
  · have hix := index a0 (.slice A1 l1.length c1) (.slice A2 l2.length c2) gb none 0 [] w hb (Kd.R_reads' ho).2.2
    have HB := Aside0.mk hB
    clear hb ho hB
    go_enter Try.func29, Try.ntmps29
    go_wp2_with fail
    refine hix.mono ?_
    rintro e w1 ⟨⟨i0, rfl, hp⟩, hb1⟩
    have hi0 : i0 = -1 := by
      rcases hp with ⟨h, _⟩ | ⟨k, hk, _⟩
      · exact h
      · simp at hk
    subst hi0
    have HB1 := Aside0.mk (below_step HB.out hb1)
    have HK1 := Aside0.mk (Kept.of_below hb1 P0_)
    clear hb1 hix hp
    go_wp2
    go_ret
    exact ⟨_, rfl, Kd.R_nil _ _ _ _ _, HB1.out, HK1.out⟩
end delete_due
end Go.Proofs.Ytkfplnbofgiknaa.Hand
