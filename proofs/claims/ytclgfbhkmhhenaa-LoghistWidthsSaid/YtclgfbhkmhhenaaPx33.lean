/- Printed by a program of this session: functions of the law's Go code as Lean functions, and that the Go code computes them. No condition beyond those in the statements. -/
import Derived.Test.YtclgfbhkmhhenaaPA
import Derived.Test.YtclgfbhkmhhenaaPx32
namespace Go.Proofs.Ytclgfbhkmhhenaa.P
open Go.RowKit Go.Proofs.YtclgfbhkmhhenaaW.PrintWords Go.Proofs.YtclgfbhkmhhenaaW.PrintLast Go.Proofs.YtclgfbhkmhhenaaW.PrintMore Go.Proofs.Ytclgfbhkmhhenaa.Hand Go.Proofs.Ytclgfbhkmhhenaa.A Go.Proofs.Ytclgfbhkmhhenaa.B
attribute [local go_sem] max2_int min2_int max_two min_two max_three min_three max_four min_four   -- for this text's walks alone
set_option linter.unusedVariables false
set_option linter.unusedSimpArgs false

/-! ### lookoutlaw12_awake: function 19 -/
def lookoutlaw12_awake.f (k : Nat)  : Option (Bool) := (loghist_Index.f k 2 100).bind fun bt167 => ((loghist_Bounds.f k 2 22).bind fun bt169 => ((lookoutlaw12_build.f k 2 (([100, 1, 105] : List Int))).bind fun bt175 => ((loghist_Quantile.f k bt175.1 bt175.2.1 bt175.2.2.1 bt175.2.2.2.1 bt175.2.2.2.2.1 bt175.2.2.2.2.2.1 1 2).bind fun bt185 => (if bt167.2 = 0 then (if bt169.2.2 = 0 then (if bt185.2.2 = 0 then (if bt175.2.2.2.2.2.2 = true then (if bt167.1 = 22 then (if bt169.1 = 96 then (if bt169.2.1 = 111 then (if (bt175.2.2.2.2.2.1.length : Int) = 2 then (if bt185.1 = 96 then (some (bt185.2.1 == 105)) else (none)) else (none)) else (none)) else (none)) else (none)) else (none)) else (none)) else (none)) else (none)))))
theorem lookoutlaw12_awake.mono : ∀ k, LeO (lookoutlaw12_awake.f k ) (lookoutlaw12_awake.f (k + 1) ) := by
  intro  k
  unfold lookoutlaw12_awake.f
  repeat' first
      | (with_reducible exact loghist_Bounds.mono _ _ _)
      | (with_reducible exact loghist_Index.mono _ _ _)
      | (with_reducible exact loghist_Quantile.mono _ _ _ _ _ _ _ _ _)
      | (with_reducible exact lookoutlaw12_build.mono _ _ _)
      | (with_reducible exact LeO.refl _)
      | (with_reducible exact LeO.none _)
      | (with_reducible refine LeO.ite ?_ ?_)
      | (with_reducible refine LeO.bind ?_ (fun _ => ?_))
      | exact loghist_Bounds.mono _ _ _
      | exact loghist_Index.mono _ _ _
      | exact loghist_Quantile.mono _ _ _ _ _ _ _ _ _
      | exact lookoutlaw12_build.mono _ _ _
      | exact LeO.none _
      | refine LeO.ite ?_ ?_
      | refine LeO.bind ?_ (fun _ => ?_)
set_option maxHeartbeats 8000000 in
set_option maxRecDepth 100000 in
theorem lookoutlaw12_awake.calls (k : Nat)  (r : Bool) (w : World) (h : lookoutlaw12_awake.f k  = some r) :
    Calls Try.prog 19 #[] w fun e w' => e = .returned (.bool r) ∧ Below w.heap.size w w' := by
  have hu29 := Try.underlying29
  have hu42 := Try.underlying42
  have HB := Aside0.mk (Below.refl w.heap.size w)
  have H : ((loghist_Index.f k 2 100).bind fun bt167 => ((loghist_Bounds.f k 2 22).bind fun bt169 => ((lookoutlaw12_build.f k 2 (([100, 1, 105] : List Int))).bind fun bt175 => ((loghist_Quantile.f k bt175.1 bt175.2.1 bt175.2.2.1 bt175.2.2.2.1 bt175.2.2.2.2.1 bt175.2.2.2.2.2.1 1 2).bind fun bt185 => (if bt167.2 = 0 then (if bt169.2.2 = 0 then (if bt185.2.2 = 0 then (if bt175.2.2.2.2.2.2 = true then (if bt167.1 = 22 then (if bt169.1 = 96 then (if bt169.2.1 = 111 then (if (bt175.2.2.2.2.2.1.length : Int) = 2 then (if bt185.1 = 96 then (some (bt185.2.1 == 105)) else (none)) else (none)) else (none)) else (none)) else (none)) else (none)) else (none)) else (none)) else (none)))))) = some r := h
  clear h
  replace H := Option.bind_eq_some_iff.mp H
  obtain ⟨⟨t167, t168⟩, A10, H⟩ := H
  replace H : ((loghist_Bounds.f k 2 22).bind fun bt169 => ((lookoutlaw12_build.f k 2 (([100, 1, 105] : List Int))).bind fun bt175 => ((loghist_Quantile.f k bt175.1 bt175.2.1 bt175.2.2.1 bt175.2.2.2.1 bt175.2.2.2.2.1 bt175.2.2.2.2.2.1 1 2).bind fun bt185 => (if t168 = 0 then (if bt169.2.2 = 0 then (if bt185.2.2 = 0 then (if bt175.2.2.2.2.2.2 = true then (if t167 = 22 then (if bt169.1 = 96 then (if bt169.2.1 = 111 then (if (bt175.2.2.2.2.2.1.length : Int) = 2 then (if bt185.1 = 96 then (some (bt185.2.1 == 105)) else (none)) else (none)) else (none)) else (none)) else (none)) else (none)) else (none)) else (none)) else (none))))) = some r := H
  have A1 := Aside0.mk A10
  clear A10
  replace H := Option.bind_eq_some_iff.mp H
  obtain ⟨⟨t169, t170, t171⟩, A20, H⟩ := H
  replace H : ((lookoutlaw12_build.f k 2 (([100, 1, 105] : List Int))).bind fun bt175 => ((loghist_Quantile.f k bt175.1 bt175.2.1 bt175.2.2.1 bt175.2.2.2.1 bt175.2.2.2.2.1 bt175.2.2.2.2.2.1 1 2).bind fun bt185 => (if t168 = 0 then (if t171 = 0 then (if bt185.2.2 = 0 then (if bt175.2.2.2.2.2.2 = true then (if t167 = 22 then (if t169 = 96 then (if t170 = 111 then (if (bt175.2.2.2.2.2.1.length : Int) = 2 then (if bt185.1 = 96 then (some (bt185.2.1 == 105)) else (none)) else (none)) else (none)) else (none)) else (none)) else (none)) else (none)) else (none)) else (none)))) = some r := H
  have A2 := Aside0.mk A20
  clear A20
  obtain ⟨y172, hy172⟩ : ∃ y_ : List Int, y_ = (([100, 1, 105] : List Int)) := ⟨_, rfl⟩
  replace H : ((lookoutlaw12_build.f k 2 y172).bind fun bt175 => ((loghist_Quantile.f k bt175.1 bt175.2.1 bt175.2.2.1 bt175.2.2.2.1 bt175.2.2.2.2.1 bt175.2.2.2.2.2.1 1 2).bind fun bt185 => (if t168 = 0 then (if t171 = 0 then (if bt185.2.2 = 0 then (if bt175.2.2.2.2.2.2 = true then (if t167 = 22 then (if t169 = 96 then (if t170 = 111 then (if (bt175.2.2.2.2.2.1.length : Int) = 2 then (if bt185.1 = 96 then (some (bt185.2.1 == 105)) else (none)) else (none)) else (none)) else (none)) else (none)) else (none)) else (none)) else (none)) else (none)))) = some r := by first | (rw [hy172]; with_reducible exact H) | (have H2_ := (Option.bind_some _ _).symm.trans H; rw [hy172]; with_reducible exact H2_) | (have H2_ := (Option.bind_some _ _).symm.trans H; with_reducible exact H2_) | with_reducible exact H | (rw [hy172]; exact H) | exact H
  have Ny172 := Aside0.mk hy172
  clear hy172
  replace H := Option.bind_eq_some_iff.mp H
  obtain ⟨⟨t175, t176, t177, t178, t179, t180, t183⟩, A30, H⟩ := H
  replace H : ((loghist_Quantile.f k t175 t176 t177 t178 t179 t180 1 2).bind fun bt185 => (if t168 = 0 then (if t171 = 0 then (if bt185.2.2 = 0 then (if t183 = true then (if t167 = 22 then (if t169 = 96 then (if t170 = 111 then (if (t180.length : Int) = 2 then (if bt185.1 = 96 then (some (bt185.2.1 == 105)) else (none)) else (none)) else (none)) else (none)) else (none)) else (none)) else (none)) else (none)) else (none))) = some r := H
  have A3 := Aside0.mk A30
  clear A30
  replace H := Option.bind_eq_some_iff.mp H
  obtain ⟨⟨t185, t186, t187⟩, A40, H⟩ := H
  replace H : (if t168 = 0 then (if t171 = 0 then (if t187 = 0 then (if t183 = true then (if t167 = 22 then (if t169 = 96 then (if t170 = 111 then (if (t180.length : Int) = 2 then (if t185 = 96 then (some (t186 == 105)) else (none)) else (none)) else (none)) else (none)) else (none)) else (none)) else (none)) else (none)) else (none)) = some r := H
  have A4 := Aside0.mk A40
  clear A40
  by_cases c5 : t168 = 0
  · rw [if_pos c5] at H
    have c5b0 : (t168 == 0) = true := beq_iff_eq.mpr c5
    have c5b1 : (t168 != 0) = false := bne_eq_false_iff_eq.mpr c5
    clear c5
    by_cases c6 : t171 = 0
    · rw [if_pos c6] at H
      have c6b0 : (t171 == 0) = true := beq_iff_eq.mpr c6
      have c6b1 : (t171 != 0) = false := bne_eq_false_iff_eq.mpr c6
      clear c6
      by_cases c7 : t187 = 0
      · rw [if_pos c7] at H
        have c7b0 : (t187 == 0) = true := beq_iff_eq.mpr c7
        have c7b1 : (t187 != 0) = false := bne_eq_false_iff_eq.mpr c7
        clear c7
        by_cases c8 : t183 = true
        · subst c8
          have H1 : (if t167 = 22 then (if t169 = 96 then (if t170 = 111 then (if (t180.length : Int) = 2 then (if t185 = 96 then (some (t186 == 105)) else (none)) else (none)) else (none)) else (none)) else (none)) = some r := by rw [if_pos rfl] at H; exact H
          clear H
          have H := H1
          clear H1
          by_cases c9 : t167 = 22
          · rw [if_pos c9] at H
            have c9b0 : (t167 == 22) = true := beq_iff_eq.mpr c9
            have c9b1 : (t167 != 22) = false := bne_eq_false_iff_eq.mpr c9
            clear c9
            by_cases c10 : t169 = 96
            · rw [if_pos c10] at H
              have c10b0 : (t169 == 96) = true := beq_iff_eq.mpr c10
              have c10b1 : (t169 != 96) = false := bne_eq_false_iff_eq.mpr c10
              clear c10
              by_cases c11 : t170 = 111
              · rw [if_pos c11] at H
                have c11b0 : (t170 == 111) = true := beq_iff_eq.mpr c11
                have c11b1 : (t170 != 111) = false := bne_eq_false_iff_eq.mpr c11
                clear c11
                by_cases c12 : (t180.length : Int) = 2
                · rw [if_pos c12] at H
                  have c12b0 : ((t180.length : Int) == 2) = true := beq_iff_eq.mpr c12
                  have c12b1 : ((t180.length : Int) != 2) = false := bne_eq_false_iff_eq.mpr c12
                  clear c12
                  by_cases c13 : t185 = 96
                  · rw [if_pos c13] at H
                    have c13b0 : (t185 == 96) = true := beq_iff_eq.mpr c13
                    have c13b1 : (t185 != 96) = false := bne_eq_false_iff_eq.mpr c13
                    clear c13
                    obtain rfl := Option.some.inj H
                    go_enter Try.func19, Try.ntmps19
                    go_wp2_with (first | ((with_reducible refine gate_callee (f := 12) rfl ?_); refine goesL_ (some 12) rfl rfl Try.func12 (by kernel_rfl) rfl #[.int .i64 2, .int .i64 100] rfl (by (try simp only [List.map_toArray, List.map_cons, List.map_nil]); first | done | rfl | (simp only [List.length_drop, List.length_take]; rfl)) ?_; (with_reducible refine (loghist_Index.calls k 2 100 t167 t168 _ A1.out).mono ?_); rintro e w' ⟨rfl, ⟨nd, rfl⟩⟩; refine ⟨_, rfl, ?_⟩) | ((with_reducible refine gate_callee (f := 14) rfl ?_); refine goesL_ (some 16) rfl rfl Try.func14 (by kernel_rfl) rfl #[.int .i64 2, .int .i64 22] rfl (by (try simp only [List.map_toArray, List.map_cons, List.map_nil]); first | done | rfl | (simp only [List.length_drop, List.length_take]; rfl)) ?_; (with_reducible refine (loghist_Bounds.calls k 2 22 t169 t170 t171 _ A2.out).mono ?_); rintro e w14 ⟨rfl, hb⟩; refine ⟨_, rfl, ?_⟩; have n0_ := Aside0.mk (below_step (by repeat (first | (with_reducible first | exact HB.out | apply below_alloc | apply pw_below_drewN | apply below_drew1) | exact HB.out)) hb); clear HB; have HB := n0_; clear n0_; (try clear hb); (try clear hb2); (try clear hk); (try clear hi)) | ((with_reducible refine gate_dst (N := 21) rfl ?_); (try (refine gate_guard (by rfl) ?_; dsimp only)); refine Kd.R_lit (Kd.int .i64) _ 3 ?hg (N := 21) ?hd (xs := ([100, 1, 105] : List Int)) (inner := [.int .i64 100, .int .i64 1, .int .i64 105]) (ok := fun _ => True) (okp := fun _ => True) ?hr ?hp (fun _ hk => hk) trivial (Below.refl _ _) (Nat.le_refl _) (by simp) ?_; (case hd => rfl); (case hg => rfl); (case hr => first | (go_simp; done) | (go_simp; rfl)); (case hp => exact (Reps.one (show Kd.M (Kd.int .i64) _ _ _ 100 [.int .i64 100] from rfl) (Reps.one (show Kd.M (Kd.int .i64) _ _ _ 1 [.int .i64 1] from rfl) (Reps.one (show Kd.M (Kd.int .i64) _ _ _ 105 [.int .i64 105] from rfl) (Reps.none _ _))))); intro v173 w15 ho16 hb hg_ hnew_; clear hg_ hnew_; (first | rw [← Ny172.out] at ho16 | (simp only [Int.reduceToNat] at ho16; rw [← Ny172.out] at ho16)); have n0_ := Aside0.mk (Kd.R_lower ho16 (below_size (by repeat (first | (with_reducible first | exact HB.out | apply below_alloc | apply pw_below_drewN | apply below_drew1) | exact HB.out)))); have n1_ := Aside0.mk (below_step (by repeat (first | (with_reducible first | exact HB.out | apply below_alloc | apply pw_below_drewN | apply below_drew1) | exact HB.out)) hb); clear HB; have HO174 := n0_; have HB := n1_; clear n0_ n1_; clear hb ho16; obtain ⟨Ao17, co17, eo17⟩ := Kd.R_slice HO174.out; subst eo17) | ((with_reducible refine gate_callee (f := 35) rfl ?_); refine goesL_ (some 22) rfl rfl Try.func35 (by kernel_rfl) rfl #[.int .i64 2, .slice Ao17 y172.length co17] rfl (by (try simp only [List.map_toArray, List.map_cons, List.map_nil]); first | done | rfl | (simp only [List.length_drop, List.length_take]; rfl)) ?_; (with_reducible refine (lookoutlaw12_build.calls k 2 _ _ y172 t175 t176 t177 t178 t179 t180 true _ ?side1 ?side2 A3.out).mono ?_); (case side1 => repeat (first | exact (Kd.R_reads' HO174.out).2.2 | (with_reducible refine Kd.C_alloc ?_ _) | (with_reducible refine Kd.C_drewN ?_ _) | (with_reducible refine Kd.C_drew ?_))); (case side2 => exact (Kd.R_reads' HO174.out).2.1); rintro e w18 ⟨v181, rfl, ho0, hb⟩; refine ⟨_, rfl, ?_⟩; have n0_ := Aside0.mk (Kd.R_below (by (with_reducible repeat (first | apply Kd.R_alloc | apply Kd.R_drewN | apply Kd.R_drew)); exact HO174.out) hb); have n1_ := Aside0.mk (Kd.R_lower ho0 (below_size (by repeat (first | (with_reducible first | exact HB.out | apply below_alloc | apply pw_below_drewN | apply below_drew1) | exact HB.out)))); have n2_ := Aside0.mk (below_step (by repeat (first | (with_reducible first | exact HB.out | apply below_alloc | apply pw_below_drewN | apply below_drew1) | exact HB.out)) hb); clear HO174; clear HB; have HO174 := n0_; have HO182 := n1_; have HB := n2_; clear n0_ n1_ n2_; (try clear hb); (try clear hb2); (try clear hk); (try clear hi); (try clear ho0)) | ((with_reducible refine gate_dst (N := 6) rfl ?_); (try (refine gate_guard (by rfl) ?_; dsimp only)); refine box_event ?hg (N := 6) ?hd (cs := #[.int .i64 0, .int .i64 0, .int .i64 0, .int .i64 0, .int .i64 0, .slice none 0 0]) (t := 29) ?hr ?_; (case hd => rfl); (case hg => rfl); (case hr => first | (go_simp; done) | (go_simp; rfl)); intro gb184 hg w19 hbox hb; have n0_ := Aside0.mk (Kd.R_below (by (with_reducible repeat (first | apply Kd.R_alloc | apply Kd.R_drewN | apply Kd.R_drew)); exact HO174.out) hb); have n1_ := Aside0.mk (Kd.R_below (by (with_reducible repeat (first | apply Kd.R_alloc | apply Kd.R_drewN | apply Kd.R_drew)); exact HO182.out) hb); have n2_ := Aside0.mk (below_step (by repeat (first | (with_reducible first | exact HB.out | apply below_alloc | apply pw_below_drewN | apply below_drew1) | exact HB.out)) hb); have n3_ := Aside0.mk (hbox); have n4_ := Aside0.mk ((by rw [hg]; exact (below_size (by repeat (first | (with_reducible first | exact HB.out | apply below_alloc | apply pw_below_drewN | apply below_drew1) | exact HB.out))) : w.heap.size ≤ gb184)); have n5_ := Aside0.mk ((by rw [hg]; exact (below_size (by repeat (first | (with_reducible first | exact HB.out | apply below_alloc | apply pw_below_drewN | apply below_drew1) | exact HB.out))) : w.heap.size ≤ gb184)); clear HO174; clear HO182; clear HB; have HO174 := n0_; have HO182 := n1_; have HB := n2_; have BK184 := n3_; have GW184 := n4_; have GE184 := n5_; clear n0_ n1_ n2_ n3_ n4_ n5_; clear hb hbox hg; have hcz20_0 : w19.cell? ⟨gb184, 0, none⟩ = some (.int .i64 0) := (blk_cell BK184.out 0).trans rfl; have hcz20_1 : w19.cell? ⟨gb184, 1, none⟩ = some (.int .i64 0) := (blk_cell BK184.out 1).trans rfl; have hcz20_2 : w19.cell? ⟨gb184, 2, none⟩ = some (.int .i64 0) := (blk_cell BK184.out 2).trans rfl; have hcz20_3 : w19.cell? ⟨gb184, 3, none⟩ = some (.int .i64 0) := (blk_cell BK184.out 3).trans rfl; have hcz20_4 : w19.cell? ⟨gb184, 4, none⟩ = some (.int .i64 0) := (blk_cell BK184.out 4).trans rfl; have hcz20_5 : w19.cell? ⟨gb184, 5, none⟩ = some (.slice none 0 0) := (blk_cell BK184.out 5).trans rfl; have hfz20_0 := blk_frozen BK184.out 0; have hfz20_1 := blk_frozen BK184.out 1; have hfz20_2 := blk_frozen BK184.out 2; have hfz20_3 := blk_frozen BK184.out 3; have hfz20_4 := blk_frozen BK184.out 4; have hfz20_5 := blk_frozen BK184.out 5; obtain ⟨Ao21, co21, eo21⟩ := Kd.R_slice HO182.out; subst eo21) | ((with_reducible refine gate_callee (f := 29) rfl ?_); refine goesL_ (some 28) rfl rfl Try.func29 (by kernel_rfl) rfl #[.agg #[.int .i64 t175, .int .i64 t176, .int .i64 t177, .int .i64 t178, .int .i64 t179, .slice Ao21 t180.length co21], .agg #[.int .i64 1, .int .i64 2]] rfl (by (try simp only [List.map_toArray, List.map_cons, List.map_nil]); first | done | rfl | (simp only [List.length_drop, List.length_take]; rfl)) ?_; (with_reducible refine (loghist_Quantile.calls k t175 t176 t177 t178 t179 _ _ t180 1 2 t185 t186 t187 _ ?side1 ?side2 A4.out).mono ?_); (case side1 => refine (Kd.R_reads' (e := 66) (base := w.heap.size) (ok := fun k_ => True) (n := t180.length) (c := co21) ?_).2.2; exact (by (with_reducible repeat (first | apply Kd.R_alloc | apply Kd.R_drewN | apply Kd.R_drew)); exact (Kd.R_mono (Kd.R_far (p := ⟨gb184, 5, none⟩) (Kd.R_far (p := ⟨gb184, 4, none⟩) (Kd.R_far (p := ⟨gb184, 3, none⟩) (Kd.R_far (p := ⟨gb184, 2, none⟩) (Kd.R_far (p := ⟨gb184, 1, none⟩) (Kd.R_far (p := ⟨gb184, 0, none⟩) (Kd.R_types HO182.out BK184.out (by decide)) (fun _ hk => hk.2) (.int .i64 t175)) (fun _ hk => hk.2) (.int .i64 t176)) (fun _ hk => hk.2) (.int .i64 t177)) (fun _ hk => hk.2) (.int .i64 t178)) (fun _ hk => hk.2) (.int .i64 t179)) (fun _ hk => hk.2) (.slice Ao21 t180.length co21)) (fun _ h_ => h_.1)))); (case side2 => exact (Kd.R_reads' HO182.out).2.1); rintro e w22 ⟨rfl, hb⟩; refine ⟨_, rfl, ?_⟩; have n0_ := Aside0.mk (Kd.R_below (by (with_reducible repeat (first | apply Kd.R_alloc | apply Kd.R_drewN | apply Kd.R_drew)); exact (Kd.R_mono (Kd.R_far (p := ⟨gb184, 5, none⟩) (Kd.R_far (p := ⟨gb184, 4, none⟩) (Kd.R_far (p := ⟨gb184, 3, none⟩) (Kd.R_far (p := ⟨gb184, 2, none⟩) (Kd.R_far (p := ⟨gb184, 1, none⟩) (Kd.R_far (p := ⟨gb184, 0, none⟩) (Kd.R_types HO174.out BK184.out (by decide)) (fun _ hk => hk.2) (.int .i64 t175)) (fun _ hk => hk.2) (.int .i64 t176)) (fun _ hk => hk.2) (.int .i64 t177)) (fun _ hk => hk.2) (.int .i64 t178)) (fun _ hk => hk.2) (.int .i64 t179)) (fun _ hk => hk.2) (.slice Ao21 t180.length co21)) (fun _ h_ => h_.1))) hb); have n1_ := Aside0.mk (Kd.R_below (by (with_reducible repeat (first | apply Kd.R_alloc | apply Kd.R_drewN | apply Kd.R_drew)); exact (Kd.R_mono (Kd.R_far (p := ⟨gb184, 5, none⟩) (Kd.R_far (p := ⟨gb184, 4, none⟩) (Kd.R_far (p := ⟨gb184, 3, none⟩) (Kd.R_far (p := ⟨gb184, 2, none⟩) (Kd.R_far (p := ⟨gb184, 1, none⟩) (Kd.R_far (p := ⟨gb184, 0, none⟩) (Kd.R_types HO182.out BK184.out (by decide)) (fun _ hk => hk.2) (.int .i64 t175)) (fun _ hk => hk.2) (.int .i64 t176)) (fun _ hk => hk.2) (.int .i64 t177)) (fun _ hk => hk.2) (.int .i64 t178)) (fun _ hk => hk.2) (.int .i64 t179)) (fun _ hk => hk.2) (.slice Ao21 t180.length co21)) (fun _ h_ => h_.1))) hb); have n2_ := Aside0.mk (blk_below (g := gb184) (o := .cells #[.int .i64 t175, .int .i64 t176, .int .i64 t177, .int .i64 t178, .int .i64 t179, .slice Ao21 t180.length co21] 29 (0, 0)) (by (with_reducible repeat (first | refine blk_drewN ?_ _ | refine blk_drew ?_ | refine blk_alloc ?_ _)); refine blk_put (cs := #[.int .i64 t175, .int .i64 t176, .int .i64 t177, .int .i64 t178, .int .i64 t179, .slice none 0 0]) ?_ 5 _ rfl; (with_reducible repeat (first | refine blk_drewN ?_ _ | refine blk_drew ?_ | refine blk_alloc ?_ _)); refine blk_put (cs := #[.int .i64 t175, .int .i64 t176, .int .i64 t177, .int .i64 t178, .int .i64 0, .slice none 0 0]) ?_ 4 _ rfl; (with_reducible repeat (first | refine blk_drewN ?_ _ | refine blk_drew ?_ | refine blk_alloc ?_ _)); refine blk_put (cs := #[.int .i64 t175, .int .i64 t176, .int .i64 t177, .int .i64 0, .int .i64 0, .slice none 0 0]) ?_ 3 _ rfl; (with_reducible repeat (first | refine blk_drewN ?_ _ | refine blk_drew ?_ | refine blk_alloc ?_ _)); refine blk_put (cs := #[.int .i64 t175, .int .i64 t176, .int .i64 0, .int .i64 0, .int .i64 0, .slice none 0 0]) ?_ 2 _ rfl; (with_reducible repeat (first | refine blk_drewN ?_ _ | refine blk_drew ?_ | refine blk_alloc ?_ _)); refine blk_put (cs := #[.int .i64 t175, .int .i64 0, .int .i64 0, .int .i64 0, .int .i64 0, .slice none 0 0]) ?_ 1 _ rfl; (with_reducible repeat (first | refine blk_drewN ?_ _ | refine blk_drew ?_ | refine blk_alloc ?_ _)); refine blk_put (cs := #[.int .i64 0, .int .i64 0, .int .i64 0, .int .i64 0, .int .i64 0, .slice none 0 0]) ?_ 0 _ rfl; (with_reducible repeat (first | refine blk_drewN ?_ _ | refine blk_drew ?_ | refine blk_alloc ?_ _)); exact BK184.out) hb); have n3_ := Aside0.mk (below_step (by repeat (first | (with_reducible first | exact HB.out | apply below_alloc | apply pw_below_drewN | apply below_drew1 | refine below_set ?_ GE184.out) | exact HB.out)) hb); clear HO174; clear HO182; clear BK184; clear HB; have HO174 := n0_; have HO182 := n1_; have BK184 := n2_; have HB := n3_; clear n0_ n1_ n2_ n3_; (try clear hb); (try clear hb2); (try clear hk); (try clear hi); have hcz23_0 : w22.cell? ⟨gb184, 0, none⟩ = some (.int .i64 t175) := (blk_cell BK184.out 0).trans rfl; have hcz23_1 : w22.cell? ⟨gb184, 1, none⟩ = some (.int .i64 t176) := (blk_cell BK184.out 1).trans rfl; have hcz23_2 : w22.cell? ⟨gb184, 2, none⟩ = some (.int .i64 t177) := (blk_cell BK184.out 2).trans rfl; have hcz23_3 : w22.cell? ⟨gb184, 3, none⟩ = some (.int .i64 t178) := (blk_cell BK184.out 3).trans rfl; have hcz23_4 : w22.cell? ⟨gb184, 4, none⟩ = some (.int .i64 t179) := (blk_cell BK184.out 4).trans rfl; have hcz23_5 : w22.cell? ⟨gb184, 5, none⟩ = some (.slice Ao21 t180.length co21) := (blk_cell BK184.out 5).trans rfl; have hfz23_0 := blk_frozen BK184.out 0; have hfz23_1 := blk_frozen BK184.out 1; have hfz23_2 := blk_frozen BK184.out 2; have hfz23_3 := blk_frozen BK184.out 3; have hfz23_4 := blk_frozen BK184.out 4; have hfz23_5 := blk_frozen BK184.out 5))
                    go_ret
                    exact ⟨by first | rfl | (simp [errW_none, errW_some] <;> rfl) | (simp [*, errW_none, errW_some] <;> rfl), by repeat (first | (with_reducible first | exact HB.out | apply below_alloc | apply pw_below_drewN | apply below_drew1 | refine below_set ?_ GE184.out) | exact HB.out)⟩
                  · rw [if_neg c13] at H
                    exact absurd H (by simp)
                · rw [if_neg c12] at H
                  exact absurd H (by simp)
              · rw [if_neg c11] at H
                exact absurd H (by simp)
            · rw [if_neg c10] at H
              exact absurd H (by simp)
          · rw [if_neg c9] at H
            exact absurd H (by simp)
        · replace c8 := Bool.eq_false_iff.mpr c8
          subst c8
          have H1 : (none) = some r := by rw [if_neg (show ¬ (false = true) by decide)] at H; exact H
          clear H
          have H := H1
          clear H1
          exact absurd H (by simp)
      · rw [if_neg c7] at H
        exact absurd H (by simp)
    · rw [if_neg c6] at H
      exact absurd H (by simp)
  · rw [if_neg c5] at H
    exact absurd H (by simp)

end Go.Proofs.Ytclgfbhkmhhenaa.P
