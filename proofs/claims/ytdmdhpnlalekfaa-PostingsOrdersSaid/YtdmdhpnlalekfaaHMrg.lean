/- The contract of postings.Merge: what the Go code returns for any lists. No further condition. -/
import Derived.Test.YtdmdhpnlalekfaaHReg
namespace Go.Proofs.Ytdmdhpnlalekfaa.Hand
open Go.RowKit Go.Shelf Go.Proofs.YtdmdhpnlalekfaaW.PrintWords Go.Proofs.YtdmdhpnlalekfaaW.PrintMore Go.Proofs.Ytdmdhpnlalekfaa.Seq Go.Proofs.Ytdmdhpnlalekfaa.A
attribute [local go_sem] Oper.semAt_some
set_option linter.unusedVariables false
set_option linter.unusedSimpArgs false
theorem ret_rowM {n : Nat} {w W : World} {rs : List Nat} {a : Act} {v : Value} {r : List Int} (ha : a.tmps.getD 2 undef = v) (hR : Kd.R (Kd.int .i64) 3 W w.heap.size (fun _ => True) v r) (hb : Below w.heap.size w W) (hd : a.defers = rs.map mkD) (hm : Marks w.heap.size rs W) :
    bodyPostM Fence.wide n Try.prog Try.f31 (fun e w' => ∃ v0_ : Value, e = .returned v0_ ∧ Kd.R (Kd.int .i64) 3 w' w.heap.size (fun _ => True) v0_ r ∧ Below w.heap.size w w') .ret a W := by
  show LeavesInM Fence.wide n Try.prog Try.f31 a.tmps _ a.defers .returning W
  rw [hd]
  refine leaves_marks rs W hm (fun W' h1 h2 => ?_)
  have ha' : a.tmps[2]?.getD undef = v := by rw [← Array.getD_eq_getD_getElem?]; exact ha
  refine ⟨v, by simp [results, Try.f31, go_sem, ha'], v, rfl, ?_, h2 w _ (Nat.le_refl _) (Nat.le_refl _) hb⟩
  exact Kd.R_mono (Kd.R_move (Kd.R_bound hR) (fun k hh => by
    obtain ⟨_, _, _, q, _, cells, hc⟩ := hh
    exact (h1 _ _ hc rfl).trans hc.symm)) (fun _ _ => trivial)
set_option maxRecDepth 100000 in
set_option maxHeartbeats 16000000 in
theorem postings_Merge.calls (k : Nat) (A0 : Option Addr) (c0 : Nat) (l0 : List (List Int)) (r : List Int) (w : World) (hr0 : Kd.C (Kd.slice 3 (Kd.int .i64)) w A0 l0.length l0) (hc0 : l0.length ≤ c0) (h : postings_Merge.f k l0 = some r) :
    Calls Try.prog 31 #[.slice A0 l0.length c0] w fun e w' => ∃ v0_ : Value, e = .returned v0_ ∧ Kd.R (Kd.int .i64) 3 w' w.heap.size (fun _ => True) v0_ r ∧ Below w.heap.size w w' := by
  obtain ⟨i0, hi, hz0, hz1, hz2⟩ := info_parts infoSl
  refine (callsIn_wide (n := 4)).1 ?_
  refine callsIn_of_wp_marks Try.func31 rfl trivial ?_ rfl
  simp only [Try.ntmps31, List.size_toArray, List.length_cons, List.length_nil, Nat.reduceAdd, Nat.reduceSub, Array.replicate_succ, Array.replicate_zero, List.push_toArray, List.append_toArray, List.nil_append, List.cons_append]
  unfold postings_Merge.f at h
  by_cases h0 : (l0.length : Int) = 0
  · rw [if_pos h0] at h
    cases h
    have t0 : ((l0.length : Int) == 0) = true := beq_iff_eq.2 h0
    gi_wp2
    refine ⟨trivial, ?_⟩
    gi_wp2
    exact ret_rowM (rs := []) (by rfl) (Kd.R_nil _ _ _ _ _) (Below.refl _ _) rfl (Marks.none _ _)
  · rw [if_neg h0] at h
    have t0 : ((l0.length : Int) == 0) = false := beq_eq_false_iff_ne.2 h0
    obtain ⟨t, ht, h⟩ := Option.bind_eq_some_iff.1 h
    have hv := postings_valid.calls k A0 c0 l0 t w hr0 hc0 ht
    gi_wp2_with fail
    refine ⟨trivial, (callsIn_wide.2 hv).mono ?_⟩
    rintro e w' ⟨rfl, ⟨mm, rfl⟩⟩
    have HB0 : Aside0 (Below w.heap.size w (w.drewN mm)) := ⟨pw_below_drewN (Below.refl _ _) mm⟩
    have HR0 : Aside0 (Kd.C (Kd.slice 3 (Kd.int .i64)) (w.drewN mm) A0 l0.length l0) := ⟨Kd.C_drewN hr0 mm⟩
    have hlen0 := hr0.2.1
    clear hv hr0 ht
    generalize w.drewN mm = W1 at HB0 HR0 ⊢
    cases t with
    | false =>
      rw [if_neg (by simp)] at h
      cases h
      gi_wp2
      exact ret_rowM (rs := []) (by rfl) (Kd.R_nil _ _ _ _ _) HB0.out rfl (Marks.none _ _)
    | true =>
      rw [if_pos rfl] at h
      by_cases hbd : l0.length < 1000000000 ∧ tot l0 < 8796093022208
      case neg => rw [if_neg hbd] at h; cases h
      rw [if_pos hbd] at h
      obtain ⟨hb1, hb2⟩ := hbd
      have HH := Aside0.mk (Option.some.inj h)
      clear h
      gi_wp2
      obtain ⟨I, hI⟩ : ∃ I : Act → World → Prop, I = (fun a W => ∃ (rows : List (List Int)) (A : Option Addr) (c : Nat) (rs : List Nat), (1 ≤ rows.length ∧ rows.length < 1000000000 ∧ rows.length ≤ c ∧ tot rows < 8796093022208 ∧ mgL rows = r ∧ Kd.C (Kd.slice 3 (Kd.int .i64)) W A rows.length rows ∧ Marks w.heap.size rs W ∧ Below w.heap.size w W) ∧
          ∃ u1 u4 u5 u6 u7 u8 u9 u10 u11 u12 u13 u14 u15 u16 u17 u18 u19 u20 u21 u22 u23 u24 u25 u26 u27 u28 u29 u30 u31 u32 u33 u34 u35 u36 u37 u38 u39 u40 u41 u42 u43 u44 : Value, a = { tmps := #[.slice A0 l0.length c0, u1, .slice none 0 0, .slice A rows.length c, u4, u5, u6, u7, u8, u9, u10, u11, u12, u13, u14, u15, u16, u17, u18, u19, u20, u21, u22, u23, u24, u25, u26, u27, u28, u29, u30, u31, u32, u33, u34, u35, u36, u37, u38, u39, u40, u41, u42, u43, u44], defers := rs.map mkD }) := ⟨_, rfl⟩
      have HI := Aside0.mk hI
      clear hI
      refine wpIn_loop I (fun a _ => lenOf (a.tmps.getD 3 undef)) ?start ?round
      case start =>
        rw [HI.out]
        exact ⟨l0, A0, c0, [], ⟨by omega, hb1, hc0, hb2, HH.out, HR0.out, Marks.none _ _, HB0.out⟩, _, _, _, _, _, _, _, _, _, _, _, _, _, _, _, _, _, _, _, _, _, _, _, _, _, _, _, _, _, _, _, _, _, _, _, _, _, _, _, _, _, _, rfl⟩
      case round =>
        intro a W hIa
        rw [HI.out] at hIa
        obtain ⟨rows, A, c, rs, ⟨hn1, hn2, hnc, htt, hmg, hC, hmk, hbel⟩, u1, u4, u5, u6, u7, u8, u9, u10, u11, u12, u13, u14, u15, u16, u17, u18, u19, u20, u21, u22, u23, u24, u25, u26, u27, u28, u29, u30, u31, u32, u33, u34, u35, u36, u37, u38, u39, u40, u41, u42, u43, u44, rfl⟩ := hIa
        have HC := Aside0.mk hC
        have HMK := Aside0.mk hmk
        have HBel := Aside0.mk hbel
        have HMG := Aside0.mk hmg
        have HTT := Aside0.mk htt
        clear hC hmk hbel hmg htt
        by_cases ck : 1 < rows.length
        · have tk : decide (1 < rows.length) = true := decide_eq_true ck
          obtain ⟨ad, _, rfl, _⟩ := Kd.C_get HC.out ([] : List Int) 0 (by omega) (by omega)
          gi_wp2_with fail
          refine ⟨trivial, (chunk.chunk_in _ _ _ _ _).mono ?_⟩
          rintro e w' ⟨rfl, rfl⟩
          gi_wp2
          have bH := Boxed.new W 41 (.slice none 0 0)
          have b1 := Boxed.new (W.alloc (.cells #[.slice none 0 0] 41)) 41 (.slice (some ad) rows.length c)
          have b2 := Boxed.new ((W.alloc (.cells #[.slice none 0 0] 41)).alloc (.cells #[.slice (some ad) rows.length c] 41)) 3 (.int .i64 2)
          simp only [World.size_alloc] at b1 b2
          have hB0 : Below W.heap.size W (((W.alloc (.cells #[.slice none 0 0] 41)).alloc (.cells #[.slice (some ad) rows.length c] 41)).alloc (.cells #[.int .i64 2] 3)) :=
            (((Below.refl _ W).alloc (Nat.le_refl _) _).alloc (by simp) _).alloc (by simp; omega) _
          have hPA : chunk.PAt (((W.alloc (.cells #[.slice none 0 0] 41)).alloc (.cells #[.slice (some ad) rows.length c] 41)).alloc (.cells #[.int .i64 2] 3)) W (W.heap.size + 1) (W.heap.size + 1 + 1) ad c rows.length :=
            ⟨b1.alloc _, b2, fun k hk => hB0.block k hk⟩
          have HMKlt : Aside0 (∀ r ∈ rs, r < W.heap.size) := ⟨fun r hr => HMK.out.lt hr⟩
          refine rangeFunc_L (F := Fence.wide) rfl (by omega) (gf := 65) (lb := #[.pointer (some ⟨W.heap.size + 1, 0, none⟩), .pointer (some ⟨W.heap.size + 1 + 1, 0, none⟩)]) rfl trivial (enters_of Try.func65 (by kernel_rfl) rfl)
            (chunk.chunk_seq (4 - 1) (by omega) W (W.heap.size + 1) (W.heap.size + 1 + 1) ad c rows.length (by omega) hnc _ hPA (by simp; omega)) keptAt_t
            (fun X l o o' hl ho h1 h2 k hk => World.putObj_heap_other (by simp at hl; rcases hk with hk | hk | hk <;> omega)) (Below.refl _ _) (fun _ => rfl)
            (fun k X => (∃ (v : Value) (vs : List Value), HVS W X W.heap.size v vs ((hvL rows).take k)) ∧ chunk.PAt X W (W.heap.size + 1) (W.heap.size + 1 + 1) ad c rows.length ∧ Marks w.heap.size rs X ∧ Below w.heap.size w X)
            (fun _ _ _ => False)
            (fun k X Y row hs hg hr => by
              obtain ⟨⟨v, vs, hh⟩, h4, h5, h6⟩ := hs
              have hne : ∀ (q : Nat) (cs : Array Value) (t : TypeId) (fz : Nat × Nat), X.heap[q]? = some (.cells cs t fz) → Y.heap[q]? = some (.cells cs t fz) := fun q cs t fz hq => (hg.block q (Array.getElem?_eq_some_iff.1 hq).1 (fun e => by
                obtain ⟨_, o, ho, hc⟩ := hr q e.symm
                rw [hq] at ho; cases ho; cases hc)).trans hq
              have hold : ∀ q, q < W.heap.size → Y.heap[q]? = X.heap[q]? := fun q hq => hg.block q (Nat.lt_of_lt_of_le hq hh.below.size) (fun e => by have := (hr q e.symm).1; simp at this; omega)
              refine ⟨⟨v, vs, ⟨box_kept hh.box hg hr, own_move hh.row (fun q hq => ?_), hh.rows.move ⟨hold, fun q cs fz hq => hne q cs _ fz hq⟩, below_kept hh.below (Nat.le_refl _) (by simp; omega) hg hr, hh.lb⟩⟩, ⟨box_kept h4.box hg hr, box_kept h4.num hg hr, fun q hq => (hold q hq).trans (h4.same q hq)⟩, h5.grown hg hr (fun r hm => by have := HMKlt.out r hm; simp; omega), below_kept h6 (Nat.le_refl _) (by simp; have := HBel.out.size; omega) hg hr⟩
              obtain ⟨cells, hc⟩ := own_typed hh.row q hq
              exact (hne _ _ _ _ hc).trans hc.symm)
            (fun _ _ _ _ _ hs _ _ => hs)
            ⟨⟨_, [], ⟨(bH.alloc _).alloc _, by simpa using World.ownsRow_nil _ _ _ _, Rows.nil _ _, hB0, Nat.le_refl _⟩⟩, hPA, (HMK.out.keeps ⟨hB0.size, fun q o _ hq _ => (hB0.block q (Array.getElem?_eq_some_iff.1 hq).1).trans hq⟩), HBel.out.trans (hB0.mono HBel.out.size)⟩
            (fun k => { tmps := #[.slice A0 l0.length c0, u1, .slice none 0 0, .slice (some ad) rows.length c, .pointer (some ⟨W.heap.size, 0, none⟩), .slice (some (ad.add (2 * k))) (chunk.plen rows.length k) (chunk.plen rows.length k), u6, u7, u8, u9, u10, u11, u12, u13, u14, .slice (some ad) rows.length c, .int .i64 rows.length, .bool true, .slice (some ad) rows.length c, .func (.func 65) #[] #[.pointer (some ⟨W.heap.size + 1, 0, none⟩), .pointer (some ⟨W.heap.size + 1 + 1, 0, none⟩)], .slice (some (ad.add (2 * k))) (chunk.plen rows.length k) (chunk.plen rows.length k), u21, u22, u23, u24, u25, u26, u27, u28, u29, u30, u31, u32, u33, u34, u35, u36, u37, u38, u39, u40, u41, u42, u43, u44], defers := [] }) ?assign ?body ?done ?stop
          case assign =>
            intro l k X K hk hK
            unfold chunk.encP
            gi_wp2
            exact hK
          case body =>
            rintro l k X hk ⟨⟨v, vs, hv⟩, hpa, hmk, hbel⟩
            have hk2 : k < rows.length := by unfold chunk.pcount at hk; omega
            have hk3 : 2 * k < rows.length := by unfold chunk.pcount at hk; omega
            obtain ⟨ad', A1, c1, e1, hx0, hC1, hc1⟩ := contains_great.at_ints HC.out ((2 * k : Nat) : Int) (by omega) (by omega)
            cases e1
            simp only [Int.toNat_natCast] at hx0
            obtain ⟨x, hx⟩ : ∃ x, x = rdOf ([] : List Int) rows ((2 * k : Nat) : Int) := ⟨_, rfl⟩
            rw [← hx] at hx0 hC1 hc1
            have HXG : Aside0 (x = rows.getD (2 * k) []) := ⟨by rw [hx]; simp only [rdOf, Int.toNat_natCast]⟩
            have HR1 : Aside0 (Row W X A1 x) := ⟨Row.of_old hC1 hpa.same⟩
            have HSTEP : Aside0 ((hvL rows).take (k + 1) = (hvL rows).take k ++ [(hvL rows).getD k []]) := ⟨by
              have hl : k < (hvL rows).length := by rw [hvL_len]; exact hk
              rw [List.take_succ_eq_append_getElem hl]
              simp [List.getD, List.getElem?_eq_getElem hl]⟩
            have HKL : Aside0 (((hvL rows).take k).length < 1000000000) := ⟨by rw [List.length_take]; omega⟩
            have hat := hvL_at rows k hk
            have HV := Aside0.mk hv
            have HPA := Aside0.mk hpa
            have HMX := Aside0.mk hmk
            have HBelX := Aside0.mk hbel
            clear hx hv hpa hmk hbel hC1
            have hbx := HV.out.box
            by_cases c2 : 2 * k + 1 < rows.length
            · have hp : chunk.plen rows.length k = 2 := by unfold chunk.plen; omega
              obtain ⟨ad', A2, c2', e1, hy0, hC2, hc2⟩ := contains_great.at_ints HC.out ((2 * k + 1 : Nat) : Int) (by omega) (by omega)
              cases e1
              simp only [Int.toNat_natCast] at hy0
              obtain ⟨y, hy⟩ : ∃ y, y = rdOf ([] : List Int) rows ((2 * k + 1 : Nat) : Int) := ⟨_, rfl⟩
              rw [← hy] at hy0 hC2 hc2
              have hyg : y = rows.getD (2 * k + 1) [] := by rw [hy]; simp only [rdOf, Int.toNat_natCast]
              have HR2 : Aside0 (Row W X A2 y) := ⟨Row.of_old hC2 HPA.out.same⟩
              have hl2 := tot_ge2 (l := rows) (k := 2 * k) c2
              rw [← HXG.out, ← hyg] at hl2
              rw [if_pos c2, ← HXG.out, ← hyg] at hat
              have HAT := Aside0.mk hat
              have htt := HTT.out
              have hy1 : W.cell? ⟨(ad.add (2 * k)).block, (ad.add (2 * k)).off + 1, none⟩ = some (.slice A2 y.length c2') := by
                rw [← add_add] at hy0
                rw [show (ad.add (2 * k)).add 1 = ⟨(ad.add (2 * k)).block, (ad.add (2 * k)).off + 1, none⟩ from by unfold Addr.add; simp] at hy0
                exact hy0
              rw [hp]
              clear hat hy hyg hC2 hy0
              gi_wp2_with fail
              refine reg10 (fun ⟨_, _, h⟩ => h) (fun _ _ _ _ h => h) _ _ _ _ _ _ _ _ _ _ _ _ _ _ _ _ _ _ _ _ _ _ _ _ _ _ _ _ _ _ _ _ _ _ _ _ _ _ _ _ _ _ _ HV.out HR1.out hc1 hx0 HR2.out hc2 hy1 (by omega) HKL.out ?_
              intro u37 u38 v1 v2 W2 hvs hok
              have HVS1 := Aside0.mk hvs
              have HOK1 := Aside0.mk hok
              clear hvs hok
              gi_wp2
              obtain ⟨hp1, hk1⟩ := PAt.okh HPA.out HOK1.out (by omega) (by omega) HVS1.out.below
              exact ⟨HOK1.out.keeps HV.out.box _, hk1, ⟨_, _, by rw [HSTEP.out, HAT.out]; exact HVS1.out⟩, hp1, HMX.out.keeps (HOK1.out.keeps HV.out.box _), HBel.out.trans (HVS1.out.below.mono HBel.out.size)⟩
            · have hp : chunk.plen rows.length k = 1 := by unfold chunk.plen; omega
              rw [if_neg c2, ← HXG.out] at hat
              have HAT := Aside0.mk hat
              rw [hp]
              clear hat
              gi_wp2_with fail
              refine reg9 (fun ⟨_, _, h⟩ => h) (fun _ _ _ _ h => h) _ _ _ _ _ _ _ _ _ _ _ _ _ _ _ _ _ _ _ _ _ _ _ _ _ _ _ _ _ _ _ _ _ _ _ _ _ _ _ _ _ _ _ HV.out HR1.out hc1 hx0 HKL.out ?_
              intro v1 W2 hvs hok
              have HVS1 := Aside0.mk hvs
              have HOK1 := Aside0.mk hok
              clear hvs hok
              gi_wp2
              obtain ⟨hp1, hk1⟩ := PAt.okh HPA.out HOK1.out (by omega) (by omega) HVS1.out.below
              exact ⟨HOK1.out.keeps HV.out.box _, hk1, ⟨_, _, by rw [HSTEP.out, HAT.out]; exact HVS1.out⟩, hp1, HMX.out.keeps (HOK1.out.keeps HV.out.box _), HBel.out.trans (HVS1.out.below.mono HBel.out.size)⟩
          case done =>
            rintro D X hD ⟨⟨v, vs, hv⟩, hpa, hmk, hbel⟩ hK
            have hD2 : W.heap.size ≤ D := by simp at hD; omega
            have hlen : (hvL rows).length = chunk.pcount rows.length := hvL_len rows
            have hpc : 1 ≤ chunk.pcount rows.length ∧ chunk.pcount rows.length < rows.length := by unfold chunk.pcount; omega
            rw [List.take_of_length_le (by omega)] at hv
            have hcase : ∃ g cap, v = .slice (some ⟨g, 0, none⟩) (hvL rows).length cap ∧ (hvL rows).length ≤ cap := by
              rcases hv.row.2 with ⟨_, hn⟩ | ⟨g, cap, cur, hv', _, _, h4, _⟩
              · omega
              · exact ⟨g, cap, hv', h4⟩
            obtain ⟨g, cap, rfl, hcap⟩ := hcase
            have HC2 := Aside0.mk (hv.rows.read hv.row (by omega))
            have HMK2 := Aside0.mk (hmk.cons (fun r hr => Nat.lt_of_lt_of_le (HMKlt.out r hr) hD2) (by have := HBel.out.size; omega) hK)
            have HB2 := Aside0.mk hbel
            have HM2 : Aside0 (mgL (hvL rows) = r) := ⟨by rw [← mgL_step ck]; exact HMG.out⟩
            have HT2 : Aside0 (tot (hvL rows) < 8796093022208) := ⟨Nat.lt_of_le_of_lt (hvL_tot rows) HTT.out⟩
            have hvc := hv.box.cell
            have HLE := Aside0.mk hlen
            clear hv hpa hmk hbel hK hlen
            gi_wp2
            refine ⟨?_, by simp [lenOf]; have := HLE.out; omega⟩
            rw [HI.out]
            exact ⟨hvL rows, some ⟨g, 0, none⟩, cap, D :: rs, ⟨by have := HLE.out; omega, by have := HLE.out; omega, hcap, HT2.out, HM2.out, HC2.out, HMK2.out, HB2.out⟩, _, _, _, _, _, _, _, _, _, _, _, _, _, _, _, _, _, _, _, _, _, _, _, _, _, _, _, _, _, _, _, _, _, _, _, _, _, _, _, _, _, _, rfl⟩
          case stop =>
            rintro D c k X _ _ h _
            exact h.elim
        · have tk : decide (1 < rows.length) = false := decide_eq_false ck
          obtain ⟨ad, A1, c1, e1, hx0, hC1, hc1⟩ := contains_great.at_ints HC.out 0 (by omega) (by omega)
          cases e1
          have hx : rdOf ([] : List Int) rows 0 = r := by
            rw [← HMG.out, mgL_one (by omega)]
            cases rows with
            | nil => rfl
            | cons x l => rfl
          rw [hx] at hx0 hC1 hc1
          have hl := tot_ge (l := rows) (k := 0) (by omega)
          have hx2 : rows.getD 0 [] = r := by rw [← hx]; rfl
          rw [hx2] at hl
          have htt := HTT.out
          have hx1 : W.cell? ad = some (.slice A1 r.length c1) := by simpa [Addr.add] using hx0
          have hcl := clone_int.calls A1 c1 r r W hC1 hc1 (by unfold clone_int.f; rw [if_pos (by omega)])
          have t0 : decide (0 < rows.length) = true := decide_eq_true (by omega)
          have t01 : 0 < rows.length := by omega
          clear hx hx2 hC1 hl hx0
          gi_wp2_with fail
          refine ⟨trivial, (callsIn_wide.2 hcl).mono ?_⟩
          rintro e W2 ⟨v0, rfl, hR, hb⟩
          have HMK2 : Aside0 (Marks w.heap.size rs W2) := ⟨HMK.out.nodup, HMK.out.ge, fun r hr => (hb.block _ (HMK.out.lt hr)).trans (HMK.out.has r hr)⟩
          have HB2 : Aside0 (Below w.heap.size w W2) := ⟨HBel.out.trans (hb.mono HBel.out.size)⟩
          have HR2 := Aside0.mk (Kd.R_lower hR HBel.out.size)
          clear hR hb
          gi_wp2
          exact ret_rowM (rs := rs) (by rfl) HR2.out HB2.out rfl HMK2.out
end Go.Proofs.Ytdmdhpnlalekfaa.Hand
