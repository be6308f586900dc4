/- Several texts of this session in one. No condition beyond those in the statements. -/
import Derived.Test.YtfklecicddpcjaaPx0
section
namespace Go.Proofs.Ytfklecicddpcjaa.P
open Go.RowKit Go.Proofs.YtfklecicddpcjaaW.PrintWords Go.Proofs.YtfklecicddpcjaaW.PrintLast Go.Proofs.YtfklecicddpcjaaW.PrintMore Go.Proofs.Ytfklecicddpcjaa.Hand Go.Proofs.Ytfklecicddpcjaa.A
attribute [local go_sem] max2_int min2_int max_two min_two max_three min_three max_four min_four   -- for this text's walks alone
set_option linter.unusedVariables false
set_option linter.unusedSimpArgs false

/-! ### dictcol_Decode: function 18 -/
def dictcol_Decode.f (k : Nat) (a0 : ByteArray) : Option (List ByteArray × Int) := (dictcol_read.f k a0).bind fun bt249 => (if bt249.2.2 = true then (some (bt249.2.1, 0)) else (some (([] : List ByteArray), 12)))
theorem dictcol_Decode.mono : ∀ a0 k, LeO (dictcol_Decode.f k a0) (dictcol_Decode.f (k + 1) a0) := by
  intro a0 k
  unfold dictcol_Decode.f
  repeat' first
      | (with_reducible exact dictcol_read.mono _ _)
      | (with_reducible exact LeO.refl _)
      | (with_reducible exact LeO.none _)
      | (with_reducible refine LeO.ite ?_ ?_)
      | (with_reducible refine LeO.bind ?_ (fun _ => ?_))
      | exact dictcol_read.mono _ _
      | exact LeO.none _
      | refine LeO.ite ?_ ?_
      | refine LeO.bind ?_ (fun _ => ?_)
set_option maxHeartbeats 8000000 in
set_option maxRecDepth 100000 in
theorem dictcol_Decode.calls (k : Nat) (a0 : ByteArray) (r1 : List ByteArray) (r2 : Int) (w : World) (h : dictcol_Decode.f k a0 = some (r1, r2)) :
    Calls Try.prog 18 #[.string a0] w fun e w' => ∃ v0_ : Value, e = .returned (.tuple #[v0_, .int .i64 r2]) ∧ Kd.R Kd.string 9 w' w.heap.size (fun _ => True) v0_ r1 ∧ Below w.heap.size w w' := by
  have hu59 := Try.underlying59
  have HB := Aside0.mk (Below.refl w.heap.size w)
  have H : ((dictcol_read.f k a0).bind fun bt249 => (if bt249.2.2 = true then (some (bt249.2.1, 0)) else (some (([] : List ByteArray), 12)))) = some (r1, r2) := h
  clear h
  replace H := Option.bind_eq_some_iff.mp H
  obtain ⟨⟨t249, t252, t255⟩, A20, H⟩ := H
  replace H : (if t255 = true then (some (t252, 0)) else (some (([] : List ByteArray), 12))) = some (r1, r2) := H
  have A2 := Aside0.mk A20
  clear A20
  by_cases c3 : t255 = true
  · subst c3
    have H1 : (some (t252, 0)) = some (r1, r2) := by rw [if_pos rfl] at H; exact H
    clear H
    have H := H1
    clear H1
    simp only [Option.some.injEq, Prod.mk.injEq] at H
    obtain ⟨rfl, rfl⟩ := H
    go_enter Try.func18, Try.ntmps18
    go_wp2_with (first | ((with_reducible refine gate_callee (f := 45) rfl ?_); refine goesL_ (some 8) rfl rfl Try.func45 (by kernel_rfl) rfl #[.string a0] rfl (by (try simp only [List.map_toArray, List.map_cons, List.map_nil]); first | done | rfl | (simp only [List.length_drop, List.length_take]; rfl)) ?_; (with_reducible refine (dictcol_read.calls k a0 t249 t252 true _ A2.out).mono ?_); rintro e w4 ⟨v250, v253, rfl, ho0, ho1, hb⟩; refine ⟨_, rfl, ?_⟩; have n0_ := Aside0.mk (Kd.R_lower ho0 (below_size (by repeat (first | (with_reducible first | exact HB.out | apply below_alloc | apply pw_below_drewN | apply below_drew1) | exact HB.out)))); have n1_ := Aside0.mk (Kd.R_lower ho1 (below_size (by repeat (first | (with_reducible first | exact HB.out | apply below_alloc | apply pw_below_drewN | apply below_drew1) | exact HB.out)))); have n2_ := Aside0.mk (below_step (by repeat (first | (with_reducible first | exact HB.out | apply below_alloc | apply pw_below_drewN | apply below_drew1) | exact HB.out)) hb); clear HB; have HO251 := n0_; have HO254 := n1_; have HB := n2_; clear n0_ n1_ n2_; (try clear hb); (try clear hb2); (try clear hk); (try clear hi); (try clear ho0); (try clear ho1)) | ((with_reducible refine gate_dst (N := 4) rfl ?_); refine box_event ?hg (N := 4) ?hd (cs := #[.slice none 0 0, .slice none 0 0]) (t := 59) ?hr ?_; (case hd => rfl); (case hg => rfl); (case hr => first | (go_simp; done) | (go_simp; rfl)); intro gb256 hg w5 hbox hb; have n0_ := Aside0.mk (Kd.R_below (by (with_reducible repeat (first | apply Kd.R_alloc | apply Kd.R_drewN | apply Kd.R_drew)); exact HO251.out) hb); have n1_ := Aside0.mk (Kd.R_below (by (with_reducible repeat (first | apply Kd.R_alloc | apply Kd.R_drewN | apply Kd.R_drew)); exact HO254.out) hb); have n2_ := Aside0.mk (below_step (by repeat (first | (with_reducible first | exact HB.out | apply below_alloc | apply pw_below_drewN | apply below_drew1) | exact HB.out)) hb); have n3_ := Aside0.mk (hbox); have n4_ := Aside0.mk ((by rw [hg]; exact (below_size (by repeat (first | (with_reducible first | exact HB.out | apply below_alloc | apply pw_below_drewN | apply below_drew1) | exact HB.out))) : w.heap.size ≤ gb256)); have n5_ := Aside0.mk ((by rw [hg]; exact (below_size (by repeat (first | (with_reducible first | exact HB.out | apply below_alloc | apply pw_below_drewN | apply below_drew1) | exact HB.out))) : w.heap.size ≤ gb256)); clear HO251; clear HO254; clear HB; have HO251 := n0_; have HO254 := n1_; have HB := n2_; have BK256 := n3_; have GW256 := n4_; have GE256 := n5_; clear n0_ n1_ n2_ n3_ n4_ n5_; clear hb hbox hg; obtain ⟨Ao6, co6, eo6⟩ := Kd.R_slice HO251.out; subst eo6; have hcz7_0 : w5.cell? ⟨gb256, 0, none⟩ = some (.slice none 0 0) := (blk_cell BK256.out 0).trans rfl; have hcz7_1 : w5.cell? ⟨gb256, 1, none⟩ = some (.slice none 0 0) := (blk_cell BK256.out 1).trans rfl; have hfz7_0 := blk_frozen BK256.out 0; have hfz7_1 := blk_frozen BK256.out 1; obtain ⟨Ao8, co8, eo8⟩ := Kd.R_slice HO254.out; subst eo8))
    go_ret2
    exact ⟨_, by first | rfl | (simp [errW_none, errW_some] <;> rfl) | (simp [*, errW_none, errW_some] <;> rfl), by (with_reducible repeat (first | apply Kd.R_alloc | apply Kd.R_drewN | apply Kd.R_drew)); exact Kd.R_mono (Kd.R_far (p := ⟨gb256, 1, none⟩) (Kd.R_far (p := ⟨gb256, 0, none⟩) (Kd.R_types HO254.out BK256.out (by decide)) (fun _ hk => hk.2) (.slice Ao6 t249.length co6)) (fun _ hk => hk.2) (.slice Ao8 t252.length co8)) (fun _ hk => trivial), by repeat (first | (with_reducible first | exact HB.out | apply below_alloc | apply pw_below_drewN | apply below_drew1 | refine below_set ?_ GE256.out) | exact HB.out)⟩
  · replace c3 := Bool.eq_false_iff.mpr c3
    subst c3
    have H1 : (some (([] : List ByteArray), 12)) = some (r1, r2) := by rw [if_neg (show ¬ (false = true) by decide)] at H; exact H
    clear H
    have H := H1
    clear H1
    simp only [Option.some.injEq, Prod.mk.injEq] at H
    obtain ⟨rfl, rfl⟩ := H
    go_enter Try.func18, Try.ntmps18
    go_wp2_with (first | ((with_reducible refine gate_callee (f := 45) rfl ?_); refine goesL_ (some 8) rfl rfl Try.func45 (by kernel_rfl) rfl #[.string a0] rfl (by (try simp only [List.map_toArray, List.map_cons, List.map_nil]); first | done | rfl | (simp only [List.length_drop, List.length_take]; rfl)) ?_; (with_reducible refine (dictcol_read.calls k a0 t249 t252 false _ A2.out).mono ?_); rintro e w9 ⟨v250, v253, rfl, ho0, ho1, hb⟩; refine ⟨_, rfl, ?_⟩; have n0_ := Aside0.mk (Kd.R_lower ho0 (below_size (by repeat (first | (with_reducible first | exact HB.out | apply below_alloc | apply pw_below_drewN | apply below_drew1) | exact HB.out)))); have n1_ := Aside0.mk (Kd.R_lower ho1 (below_size (by repeat (first | (with_reducible first | exact HB.out | apply below_alloc | apply pw_below_drewN | apply below_drew1) | exact HB.out)))); have n2_ := Aside0.mk (below_step (by repeat (first | (with_reducible first | exact HB.out | apply below_alloc | apply pw_below_drewN | apply below_drew1) | exact HB.out)) hb); clear HB; have HO251 := n0_; have HO254 := n1_; have HB := n2_; clear n0_ n1_ n2_; (try clear hb); (try clear hb2); (try clear hk); (try clear hi); (try clear ho0); (try clear ho1)) | ((with_reducible refine gate_dst (N := 4) rfl ?_); refine box_event ?hg (N := 4) ?hd (cs := #[.slice none 0 0, .slice none 0 0]) (t := 59) ?hr ?_; (case hd => rfl); (case hg => rfl); (case hr => first | (go_simp; done) | (go_simp; rfl)); intro gb256 hg w10 hbox hb; have n0_ := Aside0.mk (Kd.R_below (by (with_reducible repeat (first | apply Kd.R_alloc | apply Kd.R_drewN | apply Kd.R_drew)); exact HO251.out) hb); have n1_ := Aside0.mk (Kd.R_below (by (with_reducible repeat (first | apply Kd.R_alloc | apply Kd.R_drewN | apply Kd.R_drew)); exact HO254.out) hb); have n2_ := Aside0.mk (below_step (by repeat (first | (with_reducible first | exact HB.out | apply below_alloc | apply pw_below_drewN | apply below_drew1) | exact HB.out)) hb); have n3_ := Aside0.mk (hbox); have n4_ := Aside0.mk ((by rw [hg]; exact (below_size (by repeat (first | (with_reducible first | exact HB.out | apply below_alloc | apply pw_below_drewN | apply below_drew1) | exact HB.out))) : w.heap.size ≤ gb256)); have n5_ := Aside0.mk ((by rw [hg]; exact (below_size (by repeat (first | (with_reducible first | exact HB.out | apply below_alloc | apply pw_below_drewN | apply below_drew1) | exact HB.out))) : w.heap.size ≤ gb256)); clear HO251; clear HO254; clear HB; have HO251 := n0_; have HO254 := n1_; have HB := n2_; have BK256 := n3_; have GW256 := n4_; have GE256 := n5_; clear n0_ n1_ n2_ n3_ n4_ n5_; clear hb hbox hg; obtain ⟨Ao11, co11, eo11⟩ := Kd.R_slice HO251.out; subst eo11; have hcz12_0 : w10.cell? ⟨gb256, 0, none⟩ = some (.slice none 0 0) := (blk_cell BK256.out 0).trans rfl; have hcz12_1 : w10.cell? ⟨gb256, 1, none⟩ = some (.slice none 0 0) := (blk_cell BK256.out 1).trans rfl; have hfz12_0 := blk_frozen BK256.out 0; have hfz12_1 := blk_frozen BK256.out 1; obtain ⟨Ao13, co13, eo13⟩ := Kd.R_slice HO254.out; subst eo13))
    go_ret2
    exact ⟨_, by first | rfl | (simp [errW_none, errW_some] <;> rfl) | (simp [*, errW_none, errW_some] <;> rfl), by first | exact Kd.R_nil _ _ _ _ _ | exact Kd.N_nil _ _ _ _ _ | exact Kd.V_nil _ _ _ _ _ | exact Kd.Q_nil _ _ _ _ _ | exact Kd.S_nil _ _ _ _ _, by repeat (first | (with_reducible first | exact HB.out | apply below_alloc | apply pw_below_drewN | apply below_drew1 | refine below_set ?_ GE256.out) | exact HB.out)⟩

end Go.Proofs.Ytfklecicddpcjaa.P
end
section
namespace Go.Proofs.Ytfklecicddpcjaa.P
open Go.RowKit Go.Proofs.YtfklecicddpcjaaW.PrintWords Go.Proofs.YtfklecicddpcjaaW.PrintLast Go.Proofs.YtfklecicddpcjaaW.PrintMore Go.Proofs.Ytfklecicddpcjaa.Hand Go.Proofs.Ytfklecicddpcjaa.A
attribute [local go_sem] max2_int min2_int max_two min_two max_three min_three max_four min_four   -- for this text's walks alone
set_option linter.unusedVariables false
set_option linter.unusedSimpArgs false

/-! ### dictcol_Lookup: function 24 -/
def dictcol_Lookup.l0 : Nat → ByteArray → List Int → List ByteArray → Int → Int → Option (List Int × Int)
  | 0, _, _, _, _, _ => none
  | k + 1, x1, x8, x19, x20, x21 => if x21 < x20 then (if 0 ≤ x21 then (if x21 < (x19.length : Int) then (if (rdOf ByteArray.empty x19 x21).toList = x1.toList then (if x8.length < 17592186044416 then (dictcol_Lookup.l0 k x1 (x8 ++ [x21]) x19 x20 (wrap64 (x21 + 1))) else (none)) else (dictcol_Lookup.l0 k x1 x8 x19 x20 (wrap64 (x21 + 1)))) else (none)) else (none)) else (some (x8, 0))
def dictcol_Lookup.f (k : Nat) (a0 : ByteArray) (a1 : ByteArray) : Option (List Int × Int) := (dictcol_read.f k a0).bind fun bt257 => (if bt257.2.2 = true then (dictcol_Lookup.l0 k a1 ([] : List Int) bt257.2.1 (bt257.2.1.length : Int) 0) else (some (([] : List Int), 12)))
theorem dictcol_Lookup.mono_l : ∀ k, (∀ y0 y1 y2 y3 y4, LeO (dictcol_Lookup.l0 k y0 y1 y2 y3 y4) (dictcol_Lookup.l0 (k + 1) y0 y1 y2 y3 y4))
  | 0 => fun _ _ _ _ _ r h => by simp [dictcol_Lookup.l0] at h
  | k + 1 => by
    have ih0 := dictcol_Lookup.mono_l k
    · intro y0 y1 y2 y3 y4
      unfold dictcol_Lookup.l0
      repeat' first
      | (with_reducible exact ih0 _ _ _ _ _)
      | (with_reducible exact dictcol_read.mono _ _)
      | (with_reducible exact LeO.refl _)
      | (with_reducible exact LeO.none _)
      | (with_reducible refine LeO.ite ?_ ?_)
      | (with_reducible refine LeO.bind ?_ (fun _ => ?_))
      | exact ih0 _ _ _ _ _
      | exact dictcol_read.mono _ _
      | exact LeO.none _
      | refine LeO.ite ?_ ?_
      | refine LeO.bind ?_ (fun _ => ?_)
theorem dictcol_Lookup.mono : ∀ a0 a1 k, LeO (dictcol_Lookup.f k a0 a1) (dictcol_Lookup.f (k + 1) a0 a1) := by
  intro a0 a1 k
  have ih0 := dictcol_Lookup.mono_l k
  unfold dictcol_Lookup.f
  repeat' first
      | (with_reducible exact ih0 _ _ _ _ _)
      | (with_reducible exact dictcol_read.mono _ _)
      | (with_reducible exact LeO.refl _)
      | (with_reducible exact LeO.none _)
      | (with_reducible refine LeO.ite ?_ ?_)
      | (with_reducible refine LeO.bind ?_ (fun _ => ?_))
      | exact ih0 _ _ _ _ _
      | exact dictcol_read.mono _ _
      | exact LeO.none _
      | refine LeO.ite ?_ ?_
      | refine LeO.bind ?_ (fun _ => ?_)
set_option maxHeartbeats 8000000 in
set_option maxRecDepth 100000 in
theorem dictcol_Lookup.calls (k : Nat) (a0 : ByteArray) (a1 : ByteArray) (r1 : List Int) (r2 : Int) (w : World) (h : dictcol_Lookup.f k a0 a1 = some (r1, r2)) :
    Calls Try.prog 24 #[.string a0, .string a1] w fun e w' => ∃ v0_ : Value, e = .returned (.tuple #[v0_, .int .i64 r2]) ∧ Kd.R (Kd.int .i64) 3 w' w.heap.size (fun _ => True) v0_ r1 ∧ Below w.heap.size w w' := by
  have hu59 := Try.underlying59
  have HB := Aside0.mk (Below.refl w.heap.size w)
  have H : ((dictcol_read.f k a0).bind fun bt257 => (if bt257.2.2 = true then (dictcol_Lookup.l0 k a1 ([] : List Int) bt257.2.1 (bt257.2.1.length : Int) 0) else (some (([] : List Int), 12)))) = some (r1, r2) := h
  clear h
  replace H := Option.bind_eq_some_iff.mp H
  obtain ⟨⟨t257, t260, t263⟩, A30, H⟩ := H
  replace H : (if t263 = true then (dictcol_Lookup.l0 k a1 ([] : List Int) t260 (t260.length : Int) 0) else (some (([] : List Int), 12))) = some (r1, r2) := H
  have A3 := Aside0.mk A30
  clear A30
  by_cases c4 : t263 = true
  · subst c4
    have H1 : (dictcol_Lookup.l0 k a1 ([] : List Int) t260 (t260.length : Int) 0) = some (r1, r2) := by rw [if_pos rfl] at H; exact H
    clear H
    have H := H1
    clear H1
    have H' := Aside0.mk H
    clear H
    go_enter Try.func24, Try.ntmps24
    go_wp2_with (first | ((with_reducible refine gate_callee (f := 45) rfl ?_); refine goesL_ (some 13) rfl rfl Try.func45 (by kernel_rfl) rfl #[.string a0] rfl (by (try simp only [List.map_toArray, List.map_cons, List.map_nil]); first | done | rfl | (simp only [List.length_drop, List.length_take]; rfl)) ?_; (with_reducible refine (dictcol_read.calls k a0 t257 t260 true _ A3.out).mono ?_); rintro e w5 ⟨v258, v261, rfl, ho0, ho1, hb⟩; refine ⟨_, rfl, ?_⟩; have n0_ := Aside0.mk (Kd.R_lower ho0 (below_size (by repeat (first | (with_reducible first | exact HB.out | apply below_alloc | apply pw_below_drewN | apply below_drew1) | exact HB.out)))); have n1_ := Aside0.mk (Kd.R_lower ho1 (below_size (by repeat (first | (with_reducible first | exact HB.out | apply below_alloc | apply pw_below_drewN | apply below_drew1) | exact HB.out)))); have n2_ := Aside0.mk (below_step (by repeat (first | (with_reducible first | exact HB.out | apply below_alloc | apply pw_below_drewN | apply below_drew1) | exact HB.out)) hb); clear HB; have HO259 := n0_; have HO262 := n1_; have HB := n2_; clear n0_ n1_ n2_; (try clear hb); (try clear hb2); (try clear hk); (try clear hi); (try clear ho0); (try clear ho1)) | ((with_reducible refine gate_dst (N := 6) rfl ?_); refine box_event ?hg (N := 6) ?hd (cs := #[.slice none 0 0, .slice none 0 0]) (t := 59) ?hr ?_; (case hd => rfl); (case hg => rfl); (case hr => first | (go_simp; done) | (go_simp; rfl)); intro gb264 hg w6 hbox hb; have n0_ := Aside0.mk (Kd.R_below (by (with_reducible repeat (first | apply Kd.R_alloc | apply Kd.R_drewN | apply Kd.R_drew)); exact HO259.out) hb); have n1_ := Aside0.mk (Kd.R_below (by (with_reducible repeat (first | apply Kd.R_alloc | apply Kd.R_drewN | apply Kd.R_drew)); exact HO262.out) hb); have n2_ := Aside0.mk (below_step (by repeat (first | (with_reducible first | exact HB.out | apply below_alloc | apply pw_below_drewN | apply below_drew1) | exact HB.out)) hb); have n3_ := Aside0.mk (hbox); have n4_ := Aside0.mk ((by rw [hg]; exact (below_size (by repeat (first | (with_reducible first | exact HB.out | apply below_alloc | apply pw_below_drewN | apply below_drew1) | exact HB.out))) : w.heap.size ≤ gb264)); have n5_ := Aside0.mk ((by rw [hg]; exact (below_size (by repeat (first | (with_reducible first | exact HB.out | apply below_alloc | apply pw_below_drewN | apply below_drew1) | exact HB.out))) : w.heap.size ≤ gb264)); clear HO259; clear HO262; clear HB; have HO259 := n0_; have HO262 := n1_; have HB := n2_; have BK264 := n3_; have GW264 := n4_; have GE264 := n5_; clear n0_ n1_ n2_ n3_ n4_ n5_; clear hb hbox hg; obtain ⟨Ao7, co7, eo7⟩ := Kd.R_slice HO259.out; subst eo7; have hcz8_0 : w6.cell? ⟨gb264, 0, none⟩ = some (.slice none 0 0) := (blk_cell BK264.out 0).trans rfl; have hcz8_1 : w6.cell? ⟨gb264, 1, none⟩ = some (.slice none 0 0) := (blk_cell BK264.out 1).trans rfl; have hfz8_0 := blk_frozen BK264.out 0; have hfz8_1 := blk_frozen BK264.out 1; obtain ⟨Ao9, co9, eo9⟩ := Kd.R_slice HO262.out; subst eo9))
    go_loopg [8, 21] k (fun kq v8 v21 w' => ∃ (x8_1 : List Int) (x21_1 : Int), v21 = .int .i64 x21_1 ∧ Aside0 (dictcol_Lookup.l0 kq a1 x8_1 t260 (t260.length : Int) x21_1 = some (r1, r2)) ∧ Aside0 (kq ≤ k) ∧ Aside0 (Kd.R (Kd.int .i64) 3 w' w.heap.size (fun _ => True) v8 x8_1) ∧ Aside0 (Kd.R Kd.string 9 w' w.heap.size (fun k_ => some k_ ≠ ((.slice Ao7 t257.length co7) : Value).ownBlock) (.slice Ao9 t260.length co9) t260) ∧ Aside0 (Kd.R Kd.string 9 w' w.heap.size (fun k_ => some k_ ≠ ((.slice Ao9 t260.length co9) : Value).ownBlock ∧ some k_ ≠ ((.slice Ao9 t260.length co9) : Value).ownBlock) (.slice Ao7 t257.length co7) t257) ∧ Aside0 (Kd.R Kd.string 9 w' w.heap.size (fun k_ => some k_ ≠ ((.slice Ao7 t257.length co7) : Value).ownBlock) (.slice Ao9 t260.length co9) t260) ∧ Aside0 (w'.heap[gb264]? = some (.cells #[(.slice Ao7 t257.length co7), (.slice Ao9 t260.length co9)] 59 (0, 0))) ∧ Aside0 (Below w.heap.size w w'))
    case atStart => exact ⟨(([] : List Int)), (0), (by first | rfl | (simp; done) | (simp [*]; done)), H', ⟨Nat.le_refl _⟩, ⟨by first | exact Kd.R_nil _ _ _ _ _ | exact Kd.N_nil _ _ _ _ _ | exact Kd.V_nil _ _ _ _ _ | exact Kd.Q_nil _ _ _ _ _ | exact Kd.S_nil _ _ _ _ _⟩, ⟨by (with_reducible repeat (first | apply Kd.R_alloc | apply Kd.R_drewN | apply Kd.R_drew)); exact Kd.R_mono (Kd.R_far (p := ⟨gb264, 1, none⟩) (Kd.R_far (p := ⟨gb264, 0, none⟩) (Kd.R_types HO262.out BK264.out (by decide)) (fun _ hk => hk.2) (.slice Ao7 t257.length co7)) (fun _ hk => hk.2) (.slice Ao9 t260.length co9)) (fun _ hk => hk.1)⟩, ⟨by (with_reducible repeat (first | apply Kd.R_alloc | apply Kd.R_drewN | apply Kd.R_drew)); exact Kd.R_mono (Kd.R_far (p := ⟨gb264, 1, none⟩) (Kd.R_far (p := ⟨gb264, 0, none⟩) (Kd.R_types HO259.out BK264.out (by decide)) (fun _ hk => hk.2) (.slice Ao7 t257.length co7)) (fun _ hk => hk.2) (.slice Ao9 t260.length co9)) (fun _ hk => ⟨hk.1, hk.1⟩)⟩, ⟨by (with_reducible repeat (first | apply Kd.R_alloc | apply Kd.R_drewN | apply Kd.R_drew)); exact Kd.R_mono (Kd.R_far (p := ⟨gb264, 1, none⟩) (Kd.R_far (p := ⟨gb264, 0, none⟩) (Kd.R_types HO262.out BK264.out (by decide)) (fun _ hk => hk.2) (.slice Ao7 t257.length co7)) (fun _ hk => hk.2) (.slice Ao9 t260.length co9)) (fun _ hk => hk.1)⟩, ⟨by (with_reducible repeat (first | refine blk_drewN ?_ _ | refine blk_drew ?_ | refine blk_alloc ?_ _)); refine blk_put (cs := #[.slice Ao7 t257.length co7, .slice none 0 0]) ?_ 1 _ rfl; (with_reducible repeat (first | refine blk_drewN ?_ _ | refine blk_drew ?_ | refine blk_alloc ?_ _)); refine blk_put (cs := #[.slice none 0 0, .slice none 0 0]) ?_ 0 _ rfl; (with_reducible repeat (first | refine blk_drewN ?_ _ | refine blk_drew ?_ | refine blk_alloc ?_ _)); exact BK264.out⟩, ⟨by repeat (first | (with_reducible first | exact HB.out | apply below_alloc | apply pw_below_drewN | apply below_drew1 | refine below_set ?_ GE264.out) | exact HB.out)⟩⟩
    case round =>
      clear H'
      try clear c2
      try clear p2
      try clear c4
      try clear hcz8_0
      try clear hcz8_1
      try clear hfz8_0
      try clear hfz8_1
      obtain ⟨x8_1, x21_1, rfl, HA, HK1, HO_8, HO_19, HO_265000, HO_265001, BK264, HB⟩ := hrel
      cases gk with
      | zero => exact absurd HA.out (by simp [dictcol_Lookup.l0])
      | succ k1 =>
        have H := HA.out
        clear HA
        simp only [dictcol_Lookup.l0] at H
        by_cases c10 : x21_1 < (t260.length : Int)
        · rw [if_pos c10] at H
          have c10b0 : decide (x21_1 < (t260.length : Int)) = true := decide_eq_true c10
          clear c10
          by_cases c11 : 0 ≤ x21_1
          · rw [if_pos c11] at H
            have c11b0 : decide (0 ≤ x21_1) = true := decide_eq_true c11
            clear c11
            by_cases c12 : x21_1 < (t260.length : Int)
            · rw [if_pos c12] at H
              have c12b0 : decide (x21_1 < (t260.length : Int)) = true := decide_eq_true c12
              clear c12
              by_cases c13 : (rdOf ByteArray.empty t260 x21_1).toList = a1.toList
              · rw [if_pos c13] at H
                have c13b0 : ((rdOf ByteArray.empty t260 x21_1).toList == a1.toList) = true := beq_iff_eq.mpr c13
                have c13b1 : ((rdOf ByteArray.empty t260 x21_1).toList != a1.toList) = false := bne_eq_false_iff_eq.mpr c13
                clear c13
                by_cases c14 : x8_1.length < 17592186044416
                · rw [if_pos c14] at H
                  have LMc14 := Aside0.mk c14
                  clear c14
                  obtain ⟨y266, hy266⟩ : ∃ y_ : List Int, y_ = (x8_1 ++ [x21_1]) := ⟨_, rfl⟩
                  replace H : (dictcol_Lookup.l0 k1 a1 y266 t260 (t260.length : Int) (wrap64 (x21_1 + 1))) = some (r1, r2) := by first | (rw [hy266]; with_reducible exact H) | (have H2_ := (Option.bind_some _ _).symm.trans H; rw [hy266]; with_reducible exact H2_) | (have H2_ := (Option.bind_some _ _).symm.trans H; with_reducible exact H2_) | with_reducible exact H | (rw [hy266]; exact H) | exact H
                  have Ny266 := Aside0.mk hy266
                  clear hy266
                  have H' := Aside0.mk H
                  clear H
                  have p265 : 0 ≤ (x21_1 : Int) := of_decide_eq_true (by first | (with_reducible assumption) | assumption)
                  have q265 : x21_1 < (t260.length : Int) := of_decide_eq_true (by first | (with_reducible assumption) | assumption)
                  obtain ⟨ad265, e265, hx265_0⟩ := Kd.at_string (Kd.R_reads' HO_19.out).2.2 x21_1 p265 q265
                  cases e265
                  replace p265 := eq_true p265
                  replace q265 := eq_true q265
                  go_wp2_with (first | ((with_reducible refine gate_builtin (b := .append) (xs := #[.tmp 29, .tmp 31]) rfl ?_); at_builtin; refine Kd.R_append (Kd.int .i64) (w0 := w) w.heap.size rfl (.tmp 29) (.tmp 31) 37 3 (.int .i64 0) 8 rfl Try.underlying37 info3 rfl (by decide) (by omega) u8 x8_1 x21_1 [.int .i64 x21_1] (fun _ => True) (fun _ => False) rfl rfl ?aP (fun _ hk => hk.elim) ?aF ?aO ?aB ?aS ?aL ?_; (case aP => exact rfl); (case aB => exact (by repeat (first | (with_reducible first | exact HB.out | apply below_alloc | apply pw_below_drewN | apply below_drew1 | refine below_set ?_ GE264.out) | exact HB.out))); (case aF => exact (fun _ _ => trivial)); (case aO => exact (by (with_reducible repeat (first | apply Kd.R_alloc | apply Kd.R_drewN | apply Kd.R_drew)); exact HO_8.out)); (case aS => exact (below_size (by repeat (first | (with_reducible first | exact HB.out | apply below_alloc | apply pw_below_drewN | apply below_drew1 | refine below_set ?_ GE264.out) | exact HB.out)))); (case aL => have := LMc14.out; omega); intro v267 w15 ho hb hg hat; rw [← Ny266.out] at ho; have n0_ := Aside0.mk (Kd.R_over' (by (with_reducible repeat (first | apply Kd.R_alloc | apply Kd.R_drewN | apply Kd.R_drew)); exact HO_19.out) (Kd.R_typed (by (with_reducible repeat (first | apply Kd.R_alloc | apply Kd.R_drewN | apply Kd.R_drew)); exact HO_8.out)) (by decide) hg); have n1_ := Aside0.mk (Kd.R_over' (by (with_reducible repeat (first | apply Kd.R_alloc | apply Kd.R_drewN | apply Kd.R_drew)); exact HO_265000.out) (Kd.R_typed (by (with_reducible repeat (first | apply Kd.R_alloc | apply Kd.R_drewN | apply Kd.R_drew)); exact HO_8.out)) (by decide) hg); have n2_ := Aside0.mk (Kd.R_over' (by (with_reducible repeat (first | apply Kd.R_alloc | apply Kd.R_drewN | apply Kd.R_drew)); exact HO_265001.out) (Kd.R_typed (by (with_reducible repeat (first | apply Kd.R_alloc | apply Kd.R_drewN | apply Kd.R_drew)); exact HO_8.out)) (by decide) hg); have n3_ := Aside0.mk (blk_grown (g := gb264) (o := .cells #[.slice Ao7 t257.length co7, .slice (some ad265) t260.length co9] 59 (0, 0)) (by (with_reducible repeat (first | refine blk_drewN ?_ _ | refine blk_drew ?_ | refine blk_alloc ?_ _)); exact BK264.out) hg (Kd.R_ne HO_8.out BK264.out (by decide))); have n4_ := Aside0.mk (hb); have n5_ := Aside0.mk (ho); clear HO_19; clear HO_265000; clear HO_265001; clear BK264; clear HB; clear HO_8; have HO_19 := n0_; have HO_265000 := n1_; have HO_265001 := n2_; have BK264 := n3_; have HB := n4_; have HO268 := n5_; clear n0_ n1_ n2_ n3_ n4_ n5_; clear ho hb hg hat))
                  go_roundg k1
                  case measure => have := HK1.out; omega
                  case rel => exact ⟨(y266), (wrap64 (x21_1 + 1)), (by first | rfl | (simp; done) | (simp [*]; done)), H', ⟨by have := HK1.out; omega⟩, ⟨by (with_reducible repeat (first | apply Kd.R_alloc | apply Kd.R_drewN | apply Kd.R_drew)); exact HO268.out⟩, ⟨by (with_reducible repeat (first | apply Kd.R_alloc | apply Kd.R_drewN | apply Kd.R_drew)); exact HO_19.out⟩, ⟨by (with_reducible repeat (first | apply Kd.R_alloc | apply Kd.R_drewN | apply Kd.R_drew)); exact HO_265000.out⟩, ⟨by (with_reducible repeat (first | apply Kd.R_alloc | apply Kd.R_drewN | apply Kd.R_drew)); exact HO_265001.out⟩, ⟨by (with_reducible repeat (first | refine blk_drewN ?_ _ | refine blk_drew ?_ | refine blk_alloc ?_ _)); exact BK264.out⟩, ⟨by repeat (first | (with_reducible first | exact HB.out | apply below_alloc | apply pw_below_drewN | apply below_drew1 | refine below_set ?_ GE264.out) | exact HB.out)⟩⟩
                · rw [if_neg c14] at H
                  exact absurd H (by simp)
              · rw [if_neg c13] at H
                have c13b0 : ((rdOf ByteArray.empty t260 x21_1).toList == a1.toList) = false := beq_eq_false_iff_ne.mpr c13
                have c13b1 : ((rdOf ByteArray.empty t260 x21_1).toList != a1.toList) = true := bne_iff_ne.mpr c13
                have H' := Aside0.mk H
                clear H
                have p265 : 0 ≤ (x21_1 : Int) := of_decide_eq_true (by first | (with_reducible assumption) | assumption)
                have q265 : x21_1 < (t260.length : Int) := of_decide_eq_true (by first | (with_reducible assumption) | assumption)
                obtain ⟨ad265, e265, hx265_0⟩ := Kd.at_string (Kd.R_reads' HO_19.out).2.2 x21_1 p265 q265
                cases e265
                replace p265 := eq_true p265
                replace q265 := eq_true q265
                go_wp2
                go_roundg k1
                case measure => have := HK1.out; omega
                case rel => exact ⟨(x8_1), (wrap64 (x21_1 + 1)), (by first | rfl | (simp; done) | (simp [*]; done)), H', ⟨by have := HK1.out; omega⟩, ⟨by (with_reducible repeat (first | apply Kd.R_alloc | apply Kd.R_drewN | apply Kd.R_drew)); exact HO_8.out⟩, ⟨by (with_reducible repeat (first | apply Kd.R_alloc | apply Kd.R_drewN | apply Kd.R_drew)); exact HO_19.out⟩, ⟨by (with_reducible repeat (first | apply Kd.R_alloc | apply Kd.R_drewN | apply Kd.R_drew)); exact HO_265000.out⟩, ⟨by (with_reducible repeat (first | apply Kd.R_alloc | apply Kd.R_drewN | apply Kd.R_drew)); exact HO_265001.out⟩, ⟨by (with_reducible repeat (first | refine blk_drewN ?_ _ | refine blk_drew ?_ | refine blk_alloc ?_ _)); exact BK264.out⟩, ⟨by repeat (first | (with_reducible first | exact HB.out | apply below_alloc | apply pw_below_drewN | apply below_drew1 | refine below_set ?_ GE264.out) | exact HB.out)⟩⟩
            · rw [if_neg c12] at H
              exact absurd H (by simp)
          · rw [if_neg c11] at H
            exact absurd H (by simp)
        · rw [if_neg c10] at H
          have c10b0 : decide (x21_1 < (t260.length : Int)) = false := decide_eq_false c10
          clear c10
          simp only [Option.some.injEq, Prod.mk.injEq] at H
          obtain ⟨rfl, rfl⟩ := H
          go_wp2
          go_ret2
          exact ⟨_, by first | rfl | (simp [errW_none, errW_some] <;> rfl) | (simp [*, errW_none, errW_some] <;> rfl), by (with_reducible repeat (first | apply Kd.R_alloc | apply Kd.R_drewN | apply Kd.R_drew)); exact HO_8.out, by repeat (first | (with_reducible first | exact HB.out | apply below_alloc | apply pw_below_drewN | apply below_drew1 | refine below_set ?_ GE264.out) | exact HB.out)⟩
  · replace c4 := Bool.eq_false_iff.mpr c4
    subst c4
    have H1 : (some (([] : List Int), 12)) = some (r1, r2) := by rw [if_neg (show ¬ (false = true) by decide)] at H; exact H
    clear H
    have H := H1
    clear H1
    simp only [Option.some.injEq, Prod.mk.injEq] at H
    obtain ⟨rfl, rfl⟩ := H
    go_enter Try.func24, Try.ntmps24
    go_wp2_with (first | ((with_reducible refine gate_callee (f := 45) rfl ?_); refine goesL_ (some 13) rfl rfl Try.func45 (by kernel_rfl) rfl #[.string a0] rfl (by (try simp only [List.map_toArray, List.map_cons, List.map_nil]); first | done | rfl | (simp only [List.length_drop, List.length_take]; rfl)) ?_; (with_reducible refine (dictcol_read.calls k a0 t257 t260 false _ A3.out).mono ?_); rintro e w16 ⟨v258, v261, rfl, ho0, ho1, hb⟩; refine ⟨_, rfl, ?_⟩; have n0_ := Aside0.mk (Kd.R_lower ho0 (below_size (by repeat (first | (with_reducible first | exact HB.out | apply below_alloc | apply pw_below_drewN | apply below_drew1) | exact HB.out)))); have n1_ := Aside0.mk (Kd.R_lower ho1 (below_size (by repeat (first | (with_reducible first | exact HB.out | apply below_alloc | apply pw_below_drewN | apply below_drew1) | exact HB.out)))); have n2_ := Aside0.mk (below_step (by repeat (first | (with_reducible first | exact HB.out | apply below_alloc | apply pw_below_drewN | apply below_drew1) | exact HB.out)) hb); clear HB; have HO259 := n0_; have HO262 := n1_; have HB := n2_; clear n0_ n1_ n2_; (try clear hb); (try clear hb2); (try clear hk); (try clear hi); (try clear ho0); (try clear ho1)) | ((with_reducible refine gate_dst (N := 6) rfl ?_); refine box_event ?hg (N := 6) ?hd (cs := #[.slice none 0 0, .slice none 0 0]) (t := 59) ?hr ?_; (case hd => rfl); (case hg => rfl); (case hr => first | (go_simp; done) | (go_simp; rfl)); intro gb264 hg w17 hbox hb; have n0_ := Aside0.mk (Kd.R_below (by (with_reducible repeat (first | apply Kd.R_alloc | apply Kd.R_drewN | apply Kd.R_drew)); exact HO259.out) hb); have n1_ := Aside0.mk (Kd.R_below (by (with_reducible repeat (first | apply Kd.R_alloc | apply Kd.R_drewN | apply Kd.R_drew)); exact HO262.out) hb); have n2_ := Aside0.mk (below_step (by repeat (first | (with_reducible first | exact HB.out | apply below_alloc | apply pw_below_drewN | apply below_drew1) | exact HB.out)) hb); have n3_ := Aside0.mk (hbox); have n4_ := Aside0.mk ((by rw [hg]; exact (below_size (by repeat (first | (with_reducible first | exact HB.out | apply below_alloc | apply pw_below_drewN | apply below_drew1) | exact HB.out))) : w.heap.size ≤ gb264)); have n5_ := Aside0.mk ((by rw [hg]; exact (below_size (by repeat (first | (with_reducible first | exact HB.out | apply below_alloc | apply pw_below_drewN | apply below_drew1) | exact HB.out))) : w.heap.size ≤ gb264)); clear HO259; clear HO262; clear HB; have HO259 := n0_; have HO262 := n1_; have HB := n2_; have BK264 := n3_; have GW264 := n4_; have GE264 := n5_; clear n0_ n1_ n2_ n3_ n4_ n5_; clear hb hbox hg; obtain ⟨Ao18, co18, eo18⟩ := Kd.R_slice HO259.out; subst eo18; have hcz19_0 : w17.cell? ⟨gb264, 0, none⟩ = some (.slice none 0 0) := (blk_cell BK264.out 0).trans rfl; have hcz19_1 : w17.cell? ⟨gb264, 1, none⟩ = some (.slice none 0 0) := (blk_cell BK264.out 1).trans rfl; have hfz19_0 := blk_frozen BK264.out 0; have hfz19_1 := blk_frozen BK264.out 1; obtain ⟨Ao20, co20, eo20⟩ := Kd.R_slice HO262.out; subst eo20))
    go_ret2
    exact ⟨_, by first | rfl | (simp [errW_none, errW_some] <;> rfl) | (simp [*, errW_none, errW_some] <;> rfl), by first | exact Kd.R_nil _ _ _ _ _ | exact Kd.N_nil _ _ _ _ _ | exact Kd.V_nil _ _ _ _ _ | exact Kd.Q_nil _ _ _ _ _ | exact Kd.S_nil _ _ _ _ _, by repeat (first | (with_reducible first | exact HB.out | apply below_alloc | apply pw_below_drewN | apply below_drew1 | refine below_set ?_ GE264.out) | exact HB.out)⟩

end Go.Proofs.Ytfklecicddpcjaa.P
end
section
namespace Go.Proofs.Ytfklecicddpcjaa.P
open Go.RowKit Go.Proofs.YtfklecicddpcjaaW.PrintWords Go.Proofs.YtfklecicddpcjaaW.PrintLast Go.Proofs.YtfklecicddpcjaaW.PrintMore Go.Proofs.Ytfklecicddpcjaa.Hand Go.Proofs.Ytfklecicddpcjaa.A
attribute [local go_sem] max2_int min2_int max_two min_two max_three min_three max_four min_four   -- for this text's walks alone
set_option linter.unusedVariables false
set_option linter.unusedSimpArgs false

/-! ### lookoutlaw10_awake: function 12 -/
def lookoutlaw10_awake.f (k : Nat)  : Option (Bool) := (some (([(⟨#[98]⟩ : ByteArray), (⟨#[98]⟩ : ByteArray), (⟨#[97, 98]⟩ : ByteArray), (⟨#[97, 98, 99]⟩ : ByteArray)] : List ByteArray) : List ByteArray)).bind fun y269 => ((dictcol_Encode.f k y269).bind fun bt272 => ((dictcol_Decode.f k bt272.1).bind fun bt274 => ((dictcol_Lookup.f k bt272.1 (⟨#[98]⟩ : ByteArray)).bind fun bt278 => (if bt272.2 = 0 then (if bt274.2 = 0 then (if bt278.2 = 0 then (if bt272.1.toList = ([4, 3, 0, 2, 97, 98, 2, 1, 99, 0, 1, 98, 2, 1, 0, 0, 1, 0] : List UInt8) then ((lookoutref10_Same.f k y269 bt274.1).bind fun t282 => (if t282 = true then ((lookoutref01_Same.f k bt278.1 (([0, 1] : List Int))).bind fun t286 => (some t286)) else (none))) else (none)) else (none)) else (none)) else (none)))))
theorem lookoutlaw10_awake.mono : ∀ k, LeO (lookoutlaw10_awake.f k ) (lookoutlaw10_awake.f (k + 1) ) := by
  intro  k
  unfold lookoutlaw10_awake.f
  repeat' first
      | (with_reducible exact dictcol_Decode.mono _ _)
      | (with_reducible exact dictcol_Encode.mono _ _)
      | (with_reducible exact dictcol_Lookup.mono _ _ _)
      | (with_reducible exact lookoutref01_Same.mono _ _ _)
      | (with_reducible exact lookoutref10_Same.mono _ _ _)
      | (with_reducible exact LeO.refl _)
      | (with_reducible exact LeO.none _)
      | (with_reducible refine LeO.ite ?_ ?_)
      | (with_reducible refine LeO.bind ?_ (fun _ => ?_))
      | exact dictcol_Decode.mono _ _
      | exact dictcol_Encode.mono _ _
      | exact dictcol_Lookup.mono _ _ _
      | exact lookoutref01_Same.mono _ _ _
      | exact lookoutref10_Same.mono _ _ _
      | exact LeO.none _
      | refine LeO.ite ?_ ?_
      | refine LeO.bind ?_ (fun _ => ?_)
set_option maxHeartbeats 8000000 in
set_option maxRecDepth 100000 in
theorem lookoutlaw10_awake.calls (k : Nat)  (r : Bool) (w : World) (h : lookoutlaw10_awake.f k  = some r) :
    Calls Try.prog 12 #[] w fun e w' => e = .returned (.bool r) ∧ Below w.heap.size w w' := by
  have HB := Aside0.mk (Below.refl w.heap.size w)
  have H : ((some (([(⟨#[98]⟩ : ByteArray), (⟨#[98]⟩ : ByteArray), (⟨#[97, 98]⟩ : ByteArray), (⟨#[97, 98, 99]⟩ : ByteArray)] : List ByteArray) : List ByteArray)).bind fun y269 => ((dictcol_Encode.f k y269).bind fun bt272 => ((dictcol_Decode.f k bt272.1).bind fun bt274 => ((dictcol_Lookup.f k bt272.1 (⟨#[98]⟩ : ByteArray)).bind fun bt278 => (if bt272.2 = 0 then (if bt274.2 = 0 then (if bt278.2 = 0 then (if bt272.1.toList = ([4, 3, 0, 2, 97, 98, 2, 1, 99, 0, 1, 98, 2, 1, 0, 0, 1, 0] : List UInt8) then ((lookoutref10_Same.f k y269 bt274.1).bind fun t282 => (if t282 = true then ((lookoutref01_Same.f k bt278.1 (([0, 1] : List Int))).bind fun t286 => (some t286)) else (none))) else (none)) else (none)) else (none)) else (none)))))) = some r := h
  clear h
  obtain ⟨y269, hy269⟩ : ∃ y_ : List ByteArray, y_ = (([(⟨#[98]⟩ : ByteArray), (⟨#[98]⟩ : ByteArray), (⟨#[97, 98]⟩ : ByteArray), (⟨#[97, 98, 99]⟩ : ByteArray)] : List ByteArray)) := ⟨_, rfl⟩
  replace H : ((dictcol_Encode.f k y269).bind fun bt272 => ((dictcol_Decode.f k bt272.1).bind fun bt274 => ((dictcol_Lookup.f k bt272.1 (⟨#[98]⟩ : ByteArray)).bind fun bt278 => (if bt272.2 = 0 then (if bt274.2 = 0 then (if bt278.2 = 0 then (if bt272.1.toList = ([4, 3, 0, 2, 97, 98, 2, 1, 99, 0, 1, 98, 2, 1, 0, 0, 1, 0] : List UInt8) then ((lookoutref10_Same.f k y269 bt274.1).bind fun t282 => (if t282 = true then ((lookoutref01_Same.f k bt278.1 (([0, 1] : List Int))).bind fun t286 => (some t286)) else (none))) else (none)) else (none)) else (none)) else (none))))) = some r := by first | (rw [hy269]; with_reducible exact H) | (have H2_ := (Option.bind_some _ _).symm.trans H; rw [hy269]; with_reducible exact H2_) | (have H2_ := (Option.bind_some _ _).symm.trans H; with_reducible exact H2_) | with_reducible exact H | (rw [hy269]; exact H) | exact H
  have Ny269 := Aside0.mk hy269
  clear hy269
  replace H := Option.bind_eq_some_iff.mp H
  obtain ⟨⟨t272, t273⟩, A10, H⟩ := H
  replace H : ((dictcol_Decode.f k t272).bind fun bt274 => ((dictcol_Lookup.f k t272 (⟨#[98]⟩ : ByteArray)).bind fun bt278 => (if t273 = 0 then (if bt274.2 = 0 then (if bt278.2 = 0 then (if t272.toList = ([4, 3, 0, 2, 97, 98, 2, 1, 99, 0, 1, 98, 2, 1, 0, 0, 1, 0] : List UInt8) then ((lookoutref10_Same.f k y269 bt274.1).bind fun t282 => (if t282 = true then ((lookoutref01_Same.f k bt278.1 (([0, 1] : List Int))).bind fun t286 => (some t286)) else (none))) else (none)) else (none)) else (none)) else (none)))) = some r := H
  have A1 := Aside0.mk A10
  clear A10
  replace H := Option.bind_eq_some_iff.mp H
  obtain ⟨⟨t274, t275⟩, A20, H⟩ := H
  replace H : ((dictcol_Lookup.f k t272 (⟨#[98]⟩ : ByteArray)).bind fun bt278 => (if t273 = 0 then (if t275 = 0 then (if bt278.2 = 0 then (if t272.toList = ([4, 3, 0, 2, 97, 98, 2, 1, 99, 0, 1, 98, 2, 1, 0, 0, 1, 0] : List UInt8) then ((lookoutref10_Same.f k y269 t274).bind fun t282 => (if t282 = true then ((lookoutref01_Same.f k bt278.1 (([0, 1] : List Int))).bind fun t286 => (some t286)) else (none))) else (none)) else (none)) else (none)) else (none))) = some r := H
  have A2 := Aside0.mk A20
  clear A20
  replace H := Option.bind_eq_some_iff.mp H
  obtain ⟨⟨t278, t279⟩, A30, H⟩ := H
  replace H : (if t273 = 0 then (if t275 = 0 then (if t279 = 0 then (if t272.toList = ([4, 3, 0, 2, 97, 98, 2, 1, 99, 0, 1, 98, 2, 1, 0, 0, 1, 0] : List UInt8) then ((lookoutref10_Same.f k y269 t274).bind fun t282 => (if t282 = true then ((lookoutref01_Same.f k t278 (([0, 1] : List Int))).bind fun t286 => (some t286)) else (none))) else (none)) else (none)) else (none)) else (none)) = some r := H
  have A3 := Aside0.mk A30
  clear A30
  by_cases c4 : t273 = 0
  · rw [if_pos c4] at H
    have c4b0 : (t273 == 0) = true := beq_iff_eq.mpr c4
    have c4b1 : (t273 != 0) = false := bne_eq_false_iff_eq.mpr c4
    clear c4
    by_cases c5 : t275 = 0
    · rw [if_pos c5] at H
      have c5b0 : (t275 == 0) = true := beq_iff_eq.mpr c5
      have c5b1 : (t275 != 0) = false := bne_eq_false_iff_eq.mpr c5
      clear c5
      by_cases c6 : t279 = 0
      · rw [if_pos c6] at H
        have c6b0 : (t279 == 0) = true := beq_iff_eq.mpr c6
        have c6b1 : (t279 != 0) = false := bne_eq_false_iff_eq.mpr c6
        clear c6
        by_cases c7 : t272.toList = ([4, 3, 0, 2, 97, 98, 2, 1, 99, 0, 1, 98, 2, 1, 0, 0, 1, 0] : List UInt8)
        · rw [if_pos c7] at H
          have c7b0 : (t272.toList == ([4, 3, 0, 2, 97, 98, 2, 1, 99, 0, 1, 98, 2, 1, 0, 0, 1, 0] : List UInt8)) = true := beq_iff_eq.mpr c7
          have c7b1 : (t272.toList != ([4, 3, 0, 2, 97, 98, 2, 1, 99, 0, 1, 98, 2, 1, 0, 0, 1, 0] : List UInt8)) = false := bne_eq_false_iff_eq.mpr c7
          clear c7
          replace H := Option.bind_eq_some_iff.mp H
          obtain ⟨t282, A80, H⟩ := H
          replace H : (if t282 = true then ((lookoutref01_Same.f k t278 (([0, 1] : List Int))).bind fun t286 => (some t286)) else (none)) = some r := H
          have A8 := Aside0.mk A80
          clear A80
          by_cases c9 : t282 = true
          · subst c9
            have H1 : ((lookoutref01_Same.f k t278 (([0, 1] : List Int))).bind fun t286 => (some t286)) = some r := by rw [if_pos rfl] at H; exact H
            clear H
            have H := H1
            clear H1
            obtain ⟨y283, hy283⟩ : ∃ y_ : List Int, y_ = (([0, 1] : List Int)) := ⟨_, rfl⟩
            replace H : ((lookoutref01_Same.f k t278 y283).bind fun t286 => (some t286)) = some r := by first | (rw [hy283]; with_reducible exact H) | (have H2_ := (Option.bind_some _ _).symm.trans H; rw [hy283]; with_reducible exact H2_) | (have H2_ := (Option.bind_some _ _).symm.trans H; with_reducible exact H2_) | with_reducible exact H | (rw [hy283]; exact H) | exact H
            have Ny283 := Aside0.mk hy283
            clear hy283
            replace H := Option.bind_eq_some_iff.mp H
            obtain ⟨t286, A100, H⟩ := H
            replace H : (some t286) = some r := H
            have A10 := Aside0.mk A100
            clear A100
            obtain rfl := Option.some.inj H
            go_enter Try.func12, Try.ntmps12
            go_wp2_with (first | ((with_reducible refine gate_dst (N := 8) rfl ?_); (try (refine gate_guard (by rfl) ?_; dsimp only)); refine Kd.R_lit Kd.string _ 9 ?hg (N := 8) ?hd (xs := ([(⟨#[98]⟩ : ByteArray), (⟨#[98]⟩ : ByteArray), (⟨#[97, 98]⟩ : ByteArray), (⟨#[97, 98, 99]⟩ : ByteArray)] : List ByteArray)) (inner := [.string (⟨#[98]⟩ : ByteArray), .string (⟨#[98]⟩ : ByteArray), .string (⟨#[97, 98]⟩ : ByteArray), .string (⟨#[97, 98, 99]⟩ : ByteArray)]) (ok := fun _ => True) (okp := fun _ => True) ?hr ?hp (fun _ hk => hk) trivial (Below.refl _ _) (Nat.le_refl _) (by simp) ?_; (case hd => rfl); (case hg => rfl); (case hr => first | (go_simp; done) | (go_simp; rfl)); (case hp => exact (Reps.one (show Kd.M Kd.string _ _ _ (⟨#[98]⟩ : ByteArray) [.string (⟨#[98]⟩ : ByteArray)] from rfl) (Reps.one (show Kd.M Kd.string _ _ _ (⟨#[98]⟩ : ByteArray) [.string (⟨#[98]⟩ : ByteArray)] from rfl) (Reps.one (show Kd.M Kd.string _ _ _ (⟨#[97, 98]⟩ : ByteArray) [.string (⟨#[97, 98]⟩ : ByteArray)] from rfl) (Reps.one (show Kd.M Kd.string _ _ _ (⟨#[97, 98, 99]⟩ : ByteArray) [.string (⟨#[97, 98, 99]⟩ : ByteArray)] from rfl) (Reps.none _ _)))))); intro v270 w11 ho12 hb hg_ hnew_; clear hg_ hnew_; (first | rw [← Ny269.out] at ho12 | (simp only [Int.reduceToNat] at ho12; rw [← Ny269.out] at ho12)); have n0_ := Aside0.mk (Kd.R_lower ho12 (below_size (by repeat (first | (with_reducible first | exact HB.out | apply below_alloc | apply pw_below_drewN | apply below_drew1) | exact HB.out)))); have n1_ := Aside0.mk (below_step (by repeat (first | (with_reducible first | exact HB.out | apply below_alloc | apply pw_below_drewN | apply below_drew1) | exact HB.out)) hb); clear HB; have HO271 := n0_; have HB := n1_; clear n0_ n1_; clear hb ho12; obtain ⟨Ao13, co13, eo13⟩ := Kd.R_slice HO271.out; subst eo13) | ((with_reducible refine gate_callee (f := 13) rfl ?_); refine goesL_ (some 11) rfl rfl Try.func13 (by kernel_rfl) rfl #[.slice Ao13 y269.length co13] rfl (by (try simp only [List.map_toArray, List.map_cons, List.map_nil]); first | done | rfl | (simp only [List.length_drop, List.length_take]; rfl)) ?_; (with_reducible refine (dictcol_Encode.calls k _ _ y269 t272 t273 _ ?side1 ?side2 A1.out).mono ?_); (case side1 => repeat (first | exact (Kd.R_reads' HO271.out).2.2 | (with_reducible refine Kd.C_alloc ?_ _) | (with_reducible refine Kd.C_drewN ?_ _) | (with_reducible refine Kd.C_drew ?_))); (case side2 => exact (Kd.R_reads' HO271.out).2.1); rintro e w14 ⟨rfl, hb⟩; refine ⟨_, rfl, ?_⟩; have n0_ := Aside0.mk (Kd.R_below (by (with_reducible repeat (first | apply Kd.R_alloc | apply Kd.R_drewN | apply Kd.R_drew)); exact HO271.out) hb); have n1_ := Aside0.mk (below_step (by repeat (first | (with_reducible first | exact HB.out | apply below_alloc | apply pw_below_drewN | apply below_drew1) | exact HB.out)) hb); clear HO271; clear HB; have HO271 := n0_; have HB := n1_; clear n0_ n1_; (try clear hb); (try clear hb2); (try clear hk); (try clear hi)) | ((with_reducible refine gate_callee (f := 18) rfl ?_); refine goesL_ (some 16) rfl rfl Try.func18 (by kernel_rfl) rfl #[.string t272] rfl (by (try simp only [List.map_toArray, List.map_cons, List.map_nil]); first | done | rfl | (simp only [List.length_drop, List.length_take]; rfl)) ?_; (with_reducible refine (dictcol_Decode.calls k t272 t274 t275 _ A2.out).mono ?_); rintro e w15 ⟨v276, rfl, ho0, hb⟩; refine ⟨_, rfl, ?_⟩; have n0_ := Aside0.mk (Kd.R_elder' (by (with_reducible repeat (first | apply Kd.R_alloc | apply Kd.R_drewN | apply Kd.R_drew)); exact HO271.out) (Kd.R_base ho0) hb); have n1_ := Aside0.mk (Kd.R_lower (Kd.R_new' ho0 (Kd.R_lt (by (with_reducible repeat (first | apply Kd.R_alloc | apply Kd.R_drewN | apply Kd.R_drew)); exact HO271.out))) (below_size (by repeat (first | (with_reducible first | exact HB.out | apply below_alloc | apply pw_below_drewN | apply below_drew1) | exact HB.out)))); have n2_ := Aside0.mk (below_step (by repeat (first | (with_reducible first | exact HB.out | apply below_alloc | apply pw_below_drewN | apply below_drew1) | exact HB.out)) hb); clear HO271; clear HB; have HO271 := n0_; have HO277 := n1_; have HB := n2_; clear n0_ n1_ n2_; (try clear hb); (try clear hb2); (try clear hk); (try clear hi); (try clear ho0)) | ((with_reducible refine gate_callee (f := 24) rfl ?_); refine goesL_ (some 21) rfl rfl Try.func24 (by kernel_rfl) rfl #[.string t272, .string (⟨#[98]⟩ : ByteArray)] rfl (by (try simp only [List.map_toArray, List.map_cons, List.map_nil]); first | done | rfl | (simp only [List.length_drop, List.length_take]; rfl)) ?_; (with_reducible refine (dictcol_Lookup.calls k t272 (⟨#[98]⟩ : ByteArray) t278 t279 _ A3.out).mono ?_); rintro e w16 ⟨v280, rfl, ho0, hb⟩; refine ⟨_, rfl, ?_⟩; have n0_ := Aside0.mk (Kd.R_below (by (with_reducible repeat (first | apply Kd.R_alloc | apply Kd.R_drewN | apply Kd.R_drew)); exact HO271.out) hb); have n1_ := Aside0.mk (Kd.R_below (by (with_reducible repeat (first | apply Kd.R_alloc | apply Kd.R_drewN | apply Kd.R_drew)); exact HO277.out) hb); have n2_ := Aside0.mk (Kd.R_lower ho0 (below_size (by repeat (first | (with_reducible first | exact HB.out | apply below_alloc | apply pw_below_drewN | apply below_drew1) | exact HB.out)))); have n3_ := Aside0.mk (below_step (by repeat (first | (with_reducible first | exact HB.out | apply below_alloc | apply pw_below_drewN | apply below_drew1) | exact HB.out)) hb); clear HO271; clear HO277; clear HB; have HO271 := n0_; have HO277 := n1_; have HO281 := n2_; have HB := n3_; clear n0_ n1_ n2_ n3_; (try clear hb); (try clear hb2); (try clear hk); (try clear hi); (try clear ho0); obtain ⟨Ao17, co17, eo17⟩ := Kd.R_slice HO277.out; subst eo17) | (go_at_call 19; (with_reducible refine (lookoutref10_Same.calls k _ _ y269 _ _ t274 true _ ?side1 ?side2 ?side3 ?side4 A8.out).mono ?_); (case side1 => repeat (first | exact (Kd.R_reads' HO271.out).2.2 | (with_reducible refine Kd.C_alloc ?_ _) | (with_reducible refine Kd.C_drewN ?_ _) | (with_reducible refine Kd.C_drew ?_))); (case side2 => exact (Kd.R_reads' HO271.out).2.1); (case side3 => repeat (first | exact (Kd.R_reads' HO277.out).2.2 | (with_reducible refine Kd.C_alloc ?_ _) | (with_reducible refine Kd.C_drewN ?_ _) | (with_reducible refine Kd.C_drew ?_))); (case side4 => exact (Kd.R_reads' HO277.out).2.1); rintro e w' ⟨rfl, ⟨nd, rfl⟩⟩) | ((with_reducible refine gate_dst (N := 45) rfl ?_); (try (refine gate_guard (by rfl) ?_; dsimp only)); refine Kd.R_lit (Kd.int .i64) _ 3 ?hg (N := 45) ?hd (xs := ([0, 1] : List Int)) (inner := [.int .i64 0, .int .i64 1]) (ok := fun _ => True) (okp := fun _ => True) ?hr ?hp (fun _ hk => hk) trivial (Below.refl _ _) (Nat.le_refl _) (by simp) ?_; (case hd => rfl); (case hg => rfl); (case hr => first | (go_simp; done) | (go_simp; rfl)); (case hp => exact (Reps.one (show Kd.M (Kd.int .i64) _ _ _ 0 [.int .i64 0] from rfl) (Reps.one (show Kd.M (Kd.int .i64) _ _ _ 1 [.int .i64 1] from rfl) (Reps.none _ _)))); intro v284 w18 ho19 hb hg_ hnew_; clear hg_ hnew_; (first | rw [← Ny283.out] at ho19 | (simp only [Int.reduceToNat] at ho19; rw [← Ny283.out] at ho19)); have n0_ := Aside0.mk (Kd.R_below (by (with_reducible repeat (first | apply Kd.R_alloc | apply Kd.R_drewN | apply Kd.R_drew)); exact HO271.out) hb); have n1_ := Aside0.mk (Kd.R_below (by (with_reducible repeat (first | apply Kd.R_alloc | apply Kd.R_drewN | apply Kd.R_drew)); exact HO277.out) hb); have n2_ := Aside0.mk (Kd.R_elder' (by (with_reducible repeat (first | apply Kd.R_alloc | apply Kd.R_drewN | apply Kd.R_drew)); exact HO281.out) (Kd.R_base ho19) hb); have n3_ := Aside0.mk (Kd.R_lower (Kd.R_new' ho19 (Kd.R_lt (by (with_reducible repeat (first | apply Kd.R_alloc | apply Kd.R_drewN | apply Kd.R_drew)); exact HO281.out))) (below_size (by repeat (first | (with_reducible first | exact HB.out | apply below_alloc | apply pw_below_drewN | apply below_drew1) | exact HB.out)))); have n4_ := Aside0.mk (below_step (by repeat (first | (with_reducible first | exact HB.out | apply below_alloc | apply pw_below_drewN | apply below_drew1) | exact HB.out)) hb); clear HO271; clear HO277; clear HO281; clear HB; have HO271 := n0_; have HO277 := n1_; have HO281 := n2_; have HO285 := n3_; have HB := n4_; clear n0_ n1_ n2_ n3_ n4_; clear hb ho19; obtain ⟨Ao20, co20, eo20⟩ := Kd.R_slice HO281.out; subst eo20; obtain ⟨Ao21, co21, eo21⟩ := Kd.R_slice HO285.out; subst eo21) | (go_at_call 28; (with_reducible refine (lookoutref01_Same.calls k _ _ t278 _ _ y283 t286 _ ?side1 ?side2 ?side3 ?side4 A10.out).mono ?_); (case side1 => repeat (first | exact (Kd.R_reads' HO281.out).2.2 | (with_reducible refine Kd.C_alloc ?_ _) | (with_reducible refine Kd.C_drewN ?_ _) | (with_reducible refine Kd.C_drew ?_))); (case side2 => exact (Kd.R_reads' HO281.out).2.1); (case side3 => repeat (first | exact (Kd.R_reads' HO285.out).2.2 | (with_reducible refine Kd.C_alloc ?_ _) | (with_reducible refine Kd.C_drewN ?_ _) | (with_reducible refine Kd.C_drew ?_))); (case side4 => exact (Kd.R_reads' HO285.out).2.1); rintro e w' ⟨rfl, ⟨nd, rfl⟩⟩))
            go_ret
            exact ⟨by first | rfl | (simp [errW_none, errW_some] <;> rfl) | (simp [*, errW_none, errW_some] <;> rfl), by repeat (first | (with_reducible first | exact HB.out | apply below_alloc | apply pw_below_drewN | apply below_drew1) | exact HB.out)⟩
          · replace c9 := Bool.eq_false_iff.mpr c9
            subst c9
            have H1 : (none) = some r := by rw [if_neg (show ¬ (false = true) by decide)] at H; exact H
            clear H
            have H := H1
            clear H1
            exact absurd H (by simp)
        · rw [if_neg c7] at H
          exact absurd H (by simp)
      · rw [if_neg c6] at H
        exact absurd H (by simp)
    · rw [if_neg c5] at H
      exact absurd H (by simp)
  · rw [if_neg c4] at H
    exact absurd H (by simp)

end Go.Proofs.Ytfklecicddpcjaa.P
end
section
namespace Go.Proofs.Ytfklecicddpcjaa.P
open Go.RowKit Go.Proofs.YtfklecicddpcjaaW.PrintWords Go.Proofs.YtfklecicddpcjaaW.PrintLast Go.Proofs.YtfklecicddpcjaaW.PrintMore Go.Proofs.Ytfklecicddpcjaa.Hand Go.Proofs.Ytfklecicddpcjaa.A
attribute [local go_sem] max2_int min2_int max_two min_two max_three min_three max_four min_four   -- for this text's walks alone
set_option linter.unusedVariables false
set_option linter.unusedSimpArgs false

/-! ### dictcol_Distinct: function 22 -/
def dictcol_Distinct.f (k : Nat) (a0 : ByteArray) : Option (List ByteArray × Int) := (dictcol_read.f k a0).bind fun bt373 => (if bt373.2.2 = true then (some (bt373.1, 0)) else (some (([] : List ByteArray), 12)))
theorem dictcol_Distinct.mono : ∀ a0 k, LeO (dictcol_Distinct.f k a0) (dictcol_Distinct.f (k + 1) a0) := by
  intro a0 k
  unfold dictcol_Distinct.f
  repeat' first
      | (with_reducible exact dictcol_read.mono _ _)
      | (with_reducible exact LeO.refl _)
      | (with_reducible exact LeO.none _)
      | (with_reducible refine LeO.ite ?_ ?_)
      | (with_reducible refine LeO.bind ?_ (fun _ => ?_))
      | exact dictcol_read.mono _ _
      | exact LeO.none _
      | refine LeO.ite ?_ ?_
      | refine LeO.bind ?_ (fun _ => ?_)
set_option maxHeartbeats 8000000 in
set_option maxRecDepth 100000 in
theorem dictcol_Distinct.calls (k : Nat) (a0 : ByteArray) (r1 : List ByteArray) (r2 : Int) (w : World) (h : dictcol_Distinct.f k a0 = some (r1, r2)) :
    Calls Try.prog 22 #[.string a0] w fun e w' => ∃ v0_ : Value, e = .returned (.tuple #[v0_, .int .i64 r2]) ∧ Kd.R Kd.string 9 w' w.heap.size (fun _ => True) v0_ r1 ∧ Below w.heap.size w w' := by
  have hu59 := Try.underlying59
  have HB := Aside0.mk (Below.refl w.heap.size w)
  have H : ((dictcol_read.f k a0).bind fun bt373 => (if bt373.2.2 = true then (some (bt373.1, 0)) else (some (([] : List ByteArray), 12)))) = some (r1, r2) := h
  clear h
  replace H := Option.bind_eq_some_iff.mp H
  obtain ⟨⟨t373, t376, t379⟩, A20, H⟩ := H
  replace H : (if t379 = true then (some (t373, 0)) else (some (([] : List ByteArray), 12))) = some (r1, r2) := H
  have A2 := Aside0.mk A20
  clear A20
  by_cases c3 : t379 = true
  · subst c3
    have H1 : (some (t373, 0)) = some (r1, r2) := by rw [if_pos rfl] at H; exact H
    clear H
    have H := H1
    clear H1
    simp only [Option.some.injEq, Prod.mk.injEq] at H
    obtain ⟨rfl, rfl⟩ := H
    go_enter Try.func22, Try.ntmps22
    go_wp2_with (first | ((with_reducible refine gate_callee (f := 45) rfl ?_); refine goesL_ (some 8) rfl rfl Try.func45 (by kernel_rfl) rfl #[.string a0] rfl (by (try simp only [List.map_toArray, List.map_cons, List.map_nil]); first | done | rfl | (simp only [List.length_drop, List.length_take]; rfl)) ?_; (with_reducible refine (dictcol_read.calls k a0 t373 t376 true _ A2.out).mono ?_); rintro e w4 ⟨v374, v377, rfl, ho0, ho1, hb⟩; refine ⟨_, rfl, ?_⟩; have n0_ := Aside0.mk (Kd.R_lower ho0 (below_size (by repeat (first | (with_reducible first | exact HB.out | apply below_alloc | apply pw_below_drewN | apply below_drew1) | exact HB.out)))); have n1_ := Aside0.mk (Kd.R_lower ho1 (below_size (by repeat (first | (with_reducible first | exact HB.out | apply below_alloc | apply pw_below_drewN | apply below_drew1) | exact HB.out)))); have n2_ := Aside0.mk (below_step (by repeat (first | (with_reducible first | exact HB.out | apply below_alloc | apply pw_below_drewN | apply below_drew1) | exact HB.out)) hb); clear HB; have HO375 := n0_; have HO378 := n1_; have HB := n2_; clear n0_ n1_ n2_; (try clear hb); (try clear hb2); (try clear hk); (try clear hi); (try clear ho0); (try clear ho1)) | ((with_reducible refine gate_dst (N := 4) rfl ?_); refine box_event ?hg (N := 4) ?hd (cs := #[.slice none 0 0, .slice none 0 0]) (t := 59) ?hr ?_; (case hd => rfl); (case hg => rfl); (case hr => first | (go_simp; done) | (go_simp; rfl)); intro gb380 hg w5 hbox hb; have n0_ := Aside0.mk (Kd.R_below (by (with_reducible repeat (first | apply Kd.R_alloc | apply Kd.R_drewN | apply Kd.R_drew)); exact HO375.out) hb); have n1_ := Aside0.mk (Kd.R_below (by (with_reducible repeat (first | apply Kd.R_alloc | apply Kd.R_drewN | apply Kd.R_drew)); exact HO378.out) hb); have n2_ := Aside0.mk (below_step (by repeat (first | (with_reducible first | exact HB.out | apply below_alloc | apply pw_below_drewN | apply below_drew1) | exact HB.out)) hb); have n3_ := Aside0.mk (hbox); have n4_ := Aside0.mk ((by rw [hg]; exact (below_size (by repeat (first | (with_reducible first | exact HB.out | apply below_alloc | apply pw_below_drewN | apply below_drew1) | exact HB.out))) : w.heap.size ≤ gb380)); have n5_ := Aside0.mk ((by rw [hg]; exact (below_size (by repeat (first | (with_reducible first | exact HB.out | apply below_alloc | apply pw_below_drewN | apply below_drew1) | exact HB.out))) : w.heap.size ≤ gb380)); clear HO375; clear HO378; clear HB; have HO375 := n0_; have HO378 := n1_; have HB := n2_; have BK380 := n3_; have GW380 := n4_; have GE380 := n5_; clear n0_ n1_ n2_ n3_ n4_ n5_; clear hb hbox hg; obtain ⟨Ao6, co6, eo6⟩ := Kd.R_slice HO375.out; subst eo6; have hcz7_0 : w5.cell? ⟨gb380, 0, none⟩ = some (.slice none 0 0) := (blk_cell BK380.out 0).trans rfl; have hcz7_1 : w5.cell? ⟨gb380, 1, none⟩ = some (.slice none 0 0) := (blk_cell BK380.out 1).trans rfl; have hfz7_0 := blk_frozen BK380.out 0; have hfz7_1 := blk_frozen BK380.out 1; obtain ⟨Ao8, co8, eo8⟩ := Kd.R_slice HO378.out; subst eo8))
    go_ret2
    exact ⟨_, by first | rfl | (simp [errW_none, errW_some] <;> rfl) | (simp [*, errW_none, errW_some] <;> rfl), by (with_reducible repeat (first | apply Kd.R_alloc | apply Kd.R_drewN | apply Kd.R_drew)); exact Kd.R_mono (Kd.R_far (p := ⟨gb380, 1, none⟩) (Kd.R_far (p := ⟨gb380, 0, none⟩) (Kd.R_types HO375.out BK380.out (by decide)) (fun _ hk => hk.2) (.slice Ao6 t373.length co6)) (fun _ hk => hk.2) (.slice Ao8 t376.length co8)) (fun _ hk => trivial), by repeat (first | (with_reducible first | exact HB.out | apply below_alloc | apply pw_below_drewN | apply below_drew1 | refine below_set ?_ GE380.out) | exact HB.out)⟩
  · replace c3 := Bool.eq_false_iff.mpr c3
    subst c3
    have H1 : (some (([] : List ByteArray), 12)) = some (r1, r2) := by rw [if_neg (show ¬ (false = true) by decide)] at H; exact H
    clear H
    have H := H1
    clear H1
    simp only [Option.some.injEq, Prod.mk.injEq] at H
    obtain ⟨rfl, rfl⟩ := H
    go_enter Try.func22, Try.ntmps22
    go_wp2_with (first | ((with_reducible refine gate_callee (f := 45) rfl ?_); refine goesL_ (some 8) rfl rfl Try.func45 (by kernel_rfl) rfl #[.string a0] rfl (by (try simp only [List.map_toArray, List.map_cons, List.map_nil]); first | done | rfl | (simp only [List.length_drop, List.length_take]; rfl)) ?_; (with_reducible refine (dictcol_read.calls k a0 t373 t376 false _ A2.out).mono ?_); rintro e w9 ⟨v374, v377, rfl, ho0, ho1, hb⟩; refine ⟨_, rfl, ?_⟩; have n0_ := Aside0.mk (Kd.R_lower ho0 (below_size (by repeat (first | (with_reducible first | exact HB.out | apply below_alloc | apply pw_below_drewN | apply below_drew1) | exact HB.out)))); have n1_ := Aside0.mk (Kd.R_lower ho1 (below_size (by repeat (first | (with_reducible first | exact HB.out | apply below_alloc | apply pw_below_drewN | apply below_drew1) | exact HB.out)))); have n2_ := Aside0.mk (below_step (by repeat (first | (with_reducible first | exact HB.out | apply below_alloc | apply pw_below_drewN | apply below_drew1) | exact HB.out)) hb); clear HB; have HO375 := n0_; have HO378 := n1_; have HB := n2_; clear n0_ n1_ n2_; (try clear hb); (try clear hb2); (try clear hk); (try clear hi); (try clear ho0); (try clear ho1)) | ((with_reducible refine gate_dst (N := 4) rfl ?_); refine box_event ?hg (N := 4) ?hd (cs := #[.slice none 0 0, .slice none 0 0]) (t := 59) ?hr ?_; (case hd => rfl); (case hg => rfl); (case hr => first | (go_simp; done) | (go_simp; rfl)); intro gb380 hg w10 hbox hb; have n0_ := Aside0.mk (Kd.R_below (by (with_reducible repeat (first | apply Kd.R_alloc | apply Kd.R_drewN | apply Kd.R_drew)); exact HO375.out) hb); have n1_ := Aside0.mk (Kd.R_below (by (with_reducible repeat (first | apply Kd.R_alloc | apply Kd.R_drewN | apply Kd.R_drew)); exact HO378.out) hb); have n2_ := Aside0.mk (below_step (by repeat (first | (with_reducible first | exact HB.out | apply below_alloc | apply pw_below_drewN | apply below_drew1) | exact HB.out)) hb); have n3_ := Aside0.mk (hbox); have n4_ := Aside0.mk ((by rw [hg]; exact (below_size (by repeat (first | (with_reducible first | exact HB.out | apply below_alloc | apply pw_below_drewN | apply below_drew1) | exact HB.out))) : w.heap.size ≤ gb380)); have n5_ := Aside0.mk ((by rw [hg]; exact (below_size (by repeat (first | (with_reducible first | exact HB.out | apply below_alloc | apply pw_below_drewN | apply below_drew1) | exact HB.out))) : w.heap.size ≤ gb380)); clear HO375; clear HO378; clear HB; have HO375 := n0_; have HO378 := n1_; have HB := n2_; have BK380 := n3_; have GW380 := n4_; have GE380 := n5_; clear n0_ n1_ n2_ n3_ n4_ n5_; clear hb hbox hg; obtain ⟨Ao11, co11, eo11⟩ := Kd.R_slice HO375.out; subst eo11; have hcz12_0 : w10.cell? ⟨gb380, 0, none⟩ = some (.slice none 0 0) := (blk_cell BK380.out 0).trans rfl; have hcz12_1 : w10.cell? ⟨gb380, 1, none⟩ = some (.slice none 0 0) := (blk_cell BK380.out 1).trans rfl; have hfz12_0 := blk_frozen BK380.out 0; have hfz12_1 := blk_frozen BK380.out 1; obtain ⟨Ao13, co13, eo13⟩ := Kd.R_slice HO378.out; subst eo13))
    go_ret2
    exact ⟨_, by first | rfl | (simp [errW_none, errW_some] <;> rfl) | (simp [*, errW_none, errW_some] <;> rfl), by first | exact Kd.R_nil _ _ _ _ _ | exact Kd.N_nil _ _ _ _ _ | exact Kd.V_nil _ _ _ _ _ | exact Kd.Q_nil _ _ _ _ _ | exact Kd.S_nil _ _ _ _ _, by repeat (first | (with_reducible first | exact HB.out | apply below_alloc | apply pw_below_drewN | apply below_drew1 | refine below_set ?_ GE380.out) | exact HB.out)⟩

end Go.Proofs.Ytfklecicddpcjaa.P
end
section
namespace Go.Proofs.Ytfklecicddpcjaa.P
open Go.RowKit Go.Proofs.YtfklecicddpcjaaW.PrintWords Go.Proofs.YtfklecicddpcjaaW.PrintLast Go.Proofs.YtfklecicddpcjaaW.PrintMore Go.Proofs.Ytfklecicddpcjaa.Hand Go.Proofs.Ytfklecicddpcjaa.A
attribute [local go_sem] max2_int min2_int max_two min_two max_three min_three max_four min_four   -- for this text's walks alone
set_option linter.unusedVariables false
set_option linter.unusedSimpArgs false

/-! ### dictcol_At: function 26 -/
def dictcol_At.f (k : Nat) (a0 : ByteArray) (a1 : Int) : Option (ByteArray × Int) := (dictcol_read.f k a0).bind fun bt402 => (if bt402.2.2 = true then (if a1 < 0 then (some ((⟨#[]⟩ : ByteArray), 2)) else (if a1 ≥ (bt402.2.1.length : Int) then (some ((⟨#[]⟩ : ByteArray), 2)) else (if 0 ≤ a1 then (if a1 < (bt402.2.1.length : Int) then (some (rdOf ByteArray.empty bt402.2.1 a1, 0)) else (none)) else (none)))) else (some ((⟨#[]⟩ : ByteArray), 12)))
theorem dictcol_At.mono : ∀ a0 a1 k, LeO (dictcol_At.f k a0 a1) (dictcol_At.f (k + 1) a0 a1) := by
  intro a0 a1 k
  unfold dictcol_At.f
  repeat' first
      | (with_reducible exact dictcol_read.mono _ _)
      | (with_reducible exact LeO.refl _)
      | (with_reducible exact LeO.none _)
      | (with_reducible refine LeO.ite ?_ ?_)
      | (with_reducible refine LeO.bind ?_ (fun _ => ?_))
      | exact dictcol_read.mono _ _
      | exact LeO.none _
      | refine LeO.ite ?_ ?_
      | refine LeO.bind ?_ (fun _ => ?_)
set_option maxHeartbeats 8000000 in
set_option maxRecDepth 100000 in
theorem dictcol_At.calls (k : Nat) (a0 : ByteArray) (a1 : Int) (r1 : ByteArray) (r2 : Int) (w : World) (h : dictcol_At.f k a0 a1 = some (r1, r2)) :
    Calls Try.prog 26 #[.string a0, .int .i64 a1] w fun e w' => e = .returned (.tuple #[.string r1, .int .i64 r2]) ∧ Below w.heap.size w w' := by
  have hu59 := Try.underlying59
  have HB := Aside0.mk (Below.refl w.heap.size w)
  have H : ((dictcol_read.f k a0).bind fun bt402 => (if bt402.2.2 = true then (if a1 < 0 then (some ((⟨#[]⟩ : ByteArray), 2)) else (if a1 ≥ (bt402.2.1.length : Int) then (some ((⟨#[]⟩ : ByteArray), 2)) else (if 0 ≤ a1 then (if a1 < (bt402.2.1.length : Int) then (some (rdOf ByteArray.empty bt402.2.1 a1, 0)) else (none)) else (none)))) else (some ((⟨#[]⟩ : ByteArray), 12)))) = some (r1, r2) := h
  clear h
  replace H := Option.bind_eq_some_iff.mp H
  obtain ⟨⟨t402, t405, t408⟩, A30, H⟩ := H
  replace H : (if t408 = true then (if a1 < 0 then (some ((⟨#[]⟩ : ByteArray), 2)) else (if a1 ≥ (t405.length : Int) then (some ((⟨#[]⟩ : ByteArray), 2)) else (if 0 ≤ a1 then (if a1 < (t405.length : Int) then (some (rdOf ByteArray.empty t405 a1, 0)) else (none)) else (none)))) else (some ((⟨#[]⟩ : ByteArray), 12))) = some (r1, r2) := H
  have A3 := Aside0.mk A30
  clear A30
  by_cases c4 : t408 = true
  · subst c4
    have H1 : (if a1 < 0 then (some ((⟨#[]⟩ : ByteArray), 2)) else (if a1 ≥ (t405.length : Int) then (some ((⟨#[]⟩ : ByteArray), 2)) else (if 0 ≤ a1 then (if a1 < (t405.length : Int) then (some (rdOf ByteArray.empty t405 a1, 0)) else (none)) else (none)))) = some (r1, r2) := by rw [if_pos rfl] at H; exact H
    clear H
    have H := H1
    clear H1
    by_cases c5 : a1 < 0
    · rw [if_pos c5] at H
      have c5b0 : decide (a1 < 0) = true := decide_eq_true c5
      clear c5
      simp only [Option.some.injEq, Prod.mk.injEq] at H
      obtain ⟨rfl, rfl⟩ := H
      go_enter Try.func26, Try.ntmps26
      go_wp2_with (first | ((with_reducible refine gate_callee (f := 45) rfl ?_); refine goesL_ (some 10) rfl rfl Try.func45 (by kernel_rfl) rfl #[.string a0] rfl (by (try simp only [List.map_toArray, List.map_cons, List.map_nil]); first | done | rfl | (simp only [List.length_drop, List.length_take]; rfl)) ?_; (with_reducible refine (dictcol_read.calls k a0 t402 t405 true _ A3.out).mono ?_); rintro e w6 ⟨v403, v406, rfl, ho0, ho1, hb⟩; refine ⟨_, rfl, ?_⟩; have n0_ := Aside0.mk (Kd.R_lower ho0 (below_size (by repeat (first | (with_reducible first | exact HB.out | apply below_alloc | apply pw_below_drewN | apply below_drew1) | exact HB.out)))); have n1_ := Aside0.mk (Kd.R_lower ho1 (below_size (by repeat (first | (with_reducible first | exact HB.out | apply below_alloc | apply pw_below_drewN | apply below_drew1) | exact HB.out)))); have n2_ := Aside0.mk (below_step (by repeat (first | (with_reducible first | exact HB.out | apply below_alloc | apply pw_below_drewN | apply below_drew1) | exact HB.out)) hb); clear HB; have HO404 := n0_; have HO407 := n1_; have HB := n2_; clear n0_ n1_ n2_; (try clear hb); (try clear hb2); (try clear hk); (try clear hi); (try clear ho0); (try clear ho1)) | ((with_reducible refine gate_dst (N := 6) rfl ?_); (try (refine gate_guard (by rfl) ?_; dsimp only)); refine box_event ?hg (N := 6) ?hd (cs := #[.slice none 0 0, .slice none 0 0]) (t := 59) ?hr ?_; (case hd => rfl); (case hg => rfl); (case hr => first | (go_simp; done) | (go_simp; rfl)); intro gb409 hg w7 hbox hb; have n0_ := Aside0.mk (Kd.R_below (by (with_reducible repeat (first | apply Kd.R_alloc | apply Kd.R_drewN | apply Kd.R_drew)); exact HO404.out) hb); have n1_ := Aside0.mk (Kd.R_below (by (with_reducible repeat (first | apply Kd.R_alloc | apply Kd.R_drewN | apply Kd.R_drew)); exact HO407.out) hb); have n2_ := Aside0.mk (below_step (by repeat (first | (with_reducible first | exact HB.out | apply below_alloc | apply pw_below_drewN | apply below_drew1) | exact HB.out)) hb); have n3_ := Aside0.mk (hbox); have n4_ := Aside0.mk ((by rw [hg]; exact (below_size (by repeat (first | (with_reducible first | exact HB.out | apply below_alloc | apply pw_below_drewN | apply below_drew1) | exact HB.out))) : w.heap.size ≤ gb409)); have n5_ := Aside0.mk ((by rw [hg]; exact (below_size (by repeat (first | (with_reducible first | exact HB.out | apply below_alloc | apply pw_below_drewN | apply below_drew1) | exact HB.out))) : w.heap.size ≤ gb409)); clear HO404; clear HO407; clear HB; have HO404 := n0_; have HO407 := n1_; have HB := n2_; have BK409 := n3_; have GW409 := n4_; have GE409 := n5_; clear n0_ n1_ n2_ n3_ n4_ n5_; clear hb hbox hg; obtain ⟨Ao8, co8, eo8⟩ := Kd.R_slice HO404.out; subst eo8; have hcz9_0 : w7.cell? ⟨gb409, 0, none⟩ = some (.slice none 0 0) := (blk_cell BK409.out 0).trans rfl; have hcz9_1 : w7.cell? ⟨gb409, 1, none⟩ = some (.slice none 0 0) := (blk_cell BK409.out 1).trans rfl; have hfz9_0 := blk_frozen BK409.out 0; have hfz9_1 := blk_frozen BK409.out 1; obtain ⟨Ao10, co10, eo10⟩ := Kd.R_slice HO407.out; subst eo10))
      go_ret2
      exact ⟨by first | rfl | (simp [errW_none, errW_some] <;> rfl) | (simp [*, errW_none, errW_some] <;> rfl), by repeat (first | (with_reducible first | exact HB.out | apply below_alloc | apply pw_below_drewN | apply below_drew1 | refine below_set ?_ GE409.out) | exact HB.out)⟩
    · rw [if_neg c5] at H
      have c5b0 : decide (a1 < 0) = false := decide_eq_false c5
      clear c5
      by_cases c11 : a1 ≥ (t405.length : Int)
      · rw [if_pos c11] at H
        have c11b0 : decide ((t405.length : Int) ≤ a1) = true := decide_eq_true c11
        clear c11
        simp only [Option.some.injEq, Prod.mk.injEq] at H
        obtain ⟨rfl, rfl⟩ := H
        go_enter Try.func26, Try.ntmps26
        go_wp2_with (first | ((with_reducible refine gate_callee (f := 45) rfl ?_); refine goesL_ (some 10) rfl rfl Try.func45 (by kernel_rfl) rfl #[.string a0] rfl (by (try simp only [List.map_toArray, List.map_cons, List.map_nil]); first | done | rfl | (simp only [List.length_drop, List.length_take]; rfl)) ?_; (with_reducible refine (dictcol_read.calls k a0 t402 t405 true _ A3.out).mono ?_); rintro e w12 ⟨v403, v406, rfl, ho0, ho1, hb⟩; refine ⟨_, rfl, ?_⟩; have n0_ := Aside0.mk (Kd.R_lower ho0 (below_size (by repeat (first | (with_reducible first | exact HB.out | apply below_alloc | apply pw_below_drewN | apply below_drew1) | exact HB.out)))); have n1_ := Aside0.mk (Kd.R_lower ho1 (below_size (by repeat (first | (with_reducible first | exact HB.out | apply below_alloc | apply pw_below_drewN | apply below_drew1) | exact HB.out)))); have n2_ := Aside0.mk (below_step (by repeat (first | (with_reducible first | exact HB.out | apply below_alloc | apply pw_below_drewN | apply below_drew1) | exact HB.out)) hb); clear HB; have HO404 := n0_; have HO407 := n1_; have HB := n2_; clear n0_ n1_ n2_; (try clear hb); (try clear hb2); (try clear hk); (try clear hi); (try clear ho0); (try clear ho1)) | ((with_reducible refine gate_dst (N := 6) rfl ?_); (try (refine gate_guard (by rfl) ?_; dsimp only)); refine box_event ?hg (N := 6) ?hd (cs := #[.slice none 0 0, .slice none 0 0]) (t := 59) ?hr ?_; (case hd => rfl); (case hg => rfl); (case hr => first | (go_simp; done) | (go_simp; rfl)); intro gb409 hg w13 hbox hb; have n0_ := Aside0.mk (Kd.R_below (by (with_reducible repeat (first | apply Kd.R_alloc | apply Kd.R_drewN | apply Kd.R_drew)); exact HO404.out) hb); have n1_ := Aside0.mk (Kd.R_below (by (with_reducible repeat (first | apply Kd.R_alloc | apply Kd.R_drewN | apply Kd.R_drew)); exact HO407.out) hb); have n2_ := Aside0.mk (below_step (by repeat (first | (with_reducible first | exact HB.out | apply below_alloc | apply pw_below_drewN | apply below_drew1) | exact HB.out)) hb); have n3_ := Aside0.mk (hbox); have n4_ := Aside0.mk ((by rw [hg]; exact (below_size (by repeat (first | (with_reducible first | exact HB.out | apply below_alloc | apply pw_below_drewN | apply below_drew1) | exact HB.out))) : w.heap.size ≤ gb409)); have n5_ := Aside0.mk ((by rw [hg]; exact (below_size (by repeat (first | (with_reducible first | exact HB.out | apply below_alloc | apply pw_below_drewN | apply below_drew1) | exact HB.out))) : w.heap.size ≤ gb409)); clear HO404; clear HO407; clear HB; have HO404 := n0_; have HO407 := n1_; have HB := n2_; have BK409 := n3_; have GW409 := n4_; have GE409 := n5_; clear n0_ n1_ n2_ n3_ n4_ n5_; clear hb hbox hg; obtain ⟨Ao14, co14, eo14⟩ := Kd.R_slice HO404.out; subst eo14; have hcz15_0 : w13.cell? ⟨gb409, 0, none⟩ = some (.slice none 0 0) := (blk_cell BK409.out 0).trans rfl; have hcz15_1 : w13.cell? ⟨gb409, 1, none⟩ = some (.slice none 0 0) := (blk_cell BK409.out 1).trans rfl; have hfz15_0 := blk_frozen BK409.out 0; have hfz15_1 := blk_frozen BK409.out 1; obtain ⟨Ao16, co16, eo16⟩ := Kd.R_slice HO407.out; subst eo16))
        go_ret2
        exact ⟨by first | rfl | (simp [errW_none, errW_some] <;> rfl) | (simp [*, errW_none, errW_some] <;> rfl), by repeat (first | (with_reducible first | exact HB.out | apply below_alloc | apply pw_below_drewN | apply below_drew1 | refine below_set ?_ GE409.out) | exact HB.out)⟩
      · rw [if_neg c11] at H
        have c11b0 : decide ((t405.length : Int) ≤ a1) = false := decide_eq_false c11
        clear c11
        by_cases c17 : 0 ≤ a1
        · rw [if_pos c17] at H
          have c17b0 : decide (0 ≤ a1) = true := decide_eq_true c17
          clear c17
          by_cases c18 : a1 < (t405.length : Int)
          · rw [if_pos c18] at H
            have c18b0 : decide (a1 < (t405.length : Int)) = true := decide_eq_true c18
            clear c18
            simp only [Option.some.injEq, Prod.mk.injEq] at H
            obtain ⟨rfl, rfl⟩ := H
            go_enter Try.func26, Try.ntmps26
            go_wp2_with (first | ((with_reducible refine gate_callee (f := 45) rfl ?_); refine goesL_ (some 10) rfl rfl Try.func45 (by kernel_rfl) rfl #[.string a0] rfl (by (try simp only [List.map_toArray, List.map_cons, List.map_nil]); first | done | rfl | (simp only [List.length_drop, List.length_take]; rfl)) ?_; (with_reducible refine (dictcol_read.calls k a0 t402 t405 true _ A3.out).mono ?_); rintro e w19 ⟨v403, v406, rfl, ho0, ho1, hb⟩; refine ⟨_, rfl, ?_⟩; have n0_ := Aside0.mk (Kd.R_lower ho0 (below_size (by repeat (first | (with_reducible first | exact HB.out | apply below_alloc | apply pw_below_drewN | apply below_drew1) | exact HB.out)))); have n1_ := Aside0.mk (Kd.R_lower ho1 (below_size (by repeat (first | (with_reducible first | exact HB.out | apply below_alloc | apply pw_below_drewN | apply below_drew1) | exact HB.out)))); have n2_ := Aside0.mk (below_step (by repeat (first | (with_reducible first | exact HB.out | apply below_alloc | apply pw_below_drewN | apply below_drew1) | exact HB.out)) hb); clear HB; have HO404 := n0_; have HO407 := n1_; have HB := n2_; clear n0_ n1_ n2_; (try clear hb); (try clear hb2); (try clear hk); (try clear hi); (try clear ho0); (try clear ho1)) | ((with_reducible refine gate_dst (N := 6) rfl ?_); (try (refine gate_guard (by rfl) ?_; dsimp only)); refine box_event ?hg (N := 6) ?hd (cs := #[.slice none 0 0, .slice none 0 0]) (t := 59) ?hr ?_; (case hd => rfl); (case hg => rfl); (case hr => first | (go_simp; done) | (go_simp; rfl)); intro gb409 hg w20 hbox hb; have n0_ := Aside0.mk (Kd.R_below (by (with_reducible repeat (first | apply Kd.R_alloc | apply Kd.R_drewN | apply Kd.R_drew)); exact HO404.out) hb); have n1_ := Aside0.mk (Kd.R_below (by (with_reducible repeat (first | apply Kd.R_alloc | apply Kd.R_drewN | apply Kd.R_drew)); exact HO407.out) hb); have n2_ := Aside0.mk (below_step (by repeat (first | (with_reducible first | exact HB.out | apply below_alloc | apply pw_below_drewN | apply below_drew1) | exact HB.out)) hb); have n3_ := Aside0.mk (hbox); have n4_ := Aside0.mk ((by rw [hg]; exact (below_size (by repeat (first | (with_reducible first | exact HB.out | apply below_alloc | apply pw_below_drewN | apply below_drew1) | exact HB.out))) : w.heap.size ≤ gb409)); have n5_ := Aside0.mk ((by rw [hg]; exact (below_size (by repeat (first | (with_reducible first | exact HB.out | apply below_alloc | apply pw_below_drewN | apply below_drew1) | exact HB.out))) : w.heap.size ≤ gb409)); clear HO404; clear HO407; clear HB; have HO404 := n0_; have HO407 := n1_; have HB := n2_; have BK409 := n3_; have GW409 := n4_; have GE409 := n5_; clear n0_ n1_ n2_ n3_ n4_ n5_; clear hb hbox hg; obtain ⟨Ao21, co21, eo21⟩ := Kd.R_slice HO404.out; subst eo21; have hcz22_0 : w20.cell? ⟨gb409, 0, none⟩ = some (.slice none 0 0) := (blk_cell BK409.out 0).trans rfl; have hcz22_1 : w20.cell? ⟨gb409, 1, none⟩ = some (.slice none 0 0) := (blk_cell BK409.out 1).trans rfl; have hfz22_0 := blk_frozen BK409.out 0; have hfz22_1 := blk_frozen BK409.out 1; obtain ⟨Ao23, co23, eo23⟩ := Kd.R_slice HO407.out; subst eo23; have p410 : 0 ≤ (a1 : Int) := of_decide_eq_true (by first | (with_reducible assumption) | assumption); have q410 : a1 < (t405.length : Int) := of_decide_eq_true (by first | (with_reducible assumption) | assumption); obtain ⟨ad410, e410, hx410_0⟩ := Kd.at_string (Kd.R_reads' HO407.out).2.2 a1 p410 q410; cases e410; have hn410_0 : ad410.block ≠ gb409 := Kd.own_blk (Kd.R_ne HO407.out BK409.out (by decide)); have hn410_1 : ad410.block ≠ gb409 := Kd.own_blk (Kd.R_ne HO407.out BK409.out (by decide)); replace hx410_0 := (cell_far (p := ⟨gb409, 0, none⟩) (by first | (rw [add_block]; exact hn410_0) | (show (Addr.add _ _).block ≠ _; rw [add_block]; exact hn410_0) | exact hn410_0) (.slice Ao21 t402.length co21)).trans hx410_0; replace hx410_0 := (cell_far (p := ⟨gb409, 1, none⟩) (by first | (rw [add_block]; exact hn410_1) | (show (Addr.add _ _).block ≠ _; rw [add_block]; exact hn410_1) | exact hn410_1) (.slice (some ad410) t405.length co23)).trans hx410_0; clear hn410_0; clear hn410_1; replace p410 := eq_true p410; replace q410 := eq_true q410))
            go_ret2
            exact ⟨by first | rfl | (simp [errW_none, errW_some] <;> rfl) | (simp [*, errW_none, errW_some] <;> rfl), by repeat (first | (with_reducible first | exact HB.out | apply below_alloc | apply pw_below_drewN | apply below_drew1 | refine below_set ?_ GE409.out) | exact HB.out)⟩
          · rw [if_neg c18] at H
            exact absurd H (by simp)
        · rw [if_neg c17] at H
          exact absurd H (by simp)
  · replace c4 := Bool.eq_false_iff.mpr c4
    subst c4
    have H1 : (some ((⟨#[]⟩ : ByteArray), 12)) = some (r1, r2) := by rw [if_neg (show ¬ (false = true) by decide)] at H; exact H
    clear H
    have H := H1
    clear H1
    simp only [Option.some.injEq, Prod.mk.injEq] at H
    obtain ⟨rfl, rfl⟩ := H
    go_enter Try.func26, Try.ntmps26
    go_wp2_with (first | ((with_reducible refine gate_callee (f := 45) rfl ?_); refine goesL_ (some 10) rfl rfl Try.func45 (by kernel_rfl) rfl #[.string a0] rfl (by (try simp only [List.map_toArray, List.map_cons, List.map_nil]); first | done | rfl | (simp only [List.length_drop, List.length_take]; rfl)) ?_; (with_reducible refine (dictcol_read.calls k a0 t402 t405 false _ A3.out).mono ?_); rintro e w24 ⟨v403, v406, rfl, ho0, ho1, hb⟩; refine ⟨_, rfl, ?_⟩; have n0_ := Aside0.mk (Kd.R_lower ho0 (below_size (by repeat (first | (with_reducible first | exact HB.out | apply below_alloc | apply pw_below_drewN | apply below_drew1) | exact HB.out)))); have n1_ := Aside0.mk (Kd.R_lower ho1 (below_size (by repeat (first | (with_reducible first | exact HB.out | apply below_alloc | apply pw_below_drewN | apply below_drew1) | exact HB.out)))); have n2_ := Aside0.mk (below_step (by repeat (first | (with_reducible first | exact HB.out | apply below_alloc | apply pw_below_drewN | apply below_drew1) | exact HB.out)) hb); clear HB; have HO404 := n0_; have HO407 := n1_; have HB := n2_; clear n0_ n1_ n2_; (try clear hb); (try clear hb2); (try clear hk); (try clear hi); (try clear ho0); (try clear ho1)) | ((with_reducible refine gate_dst (N := 6) rfl ?_); (try (refine gate_guard (by rfl) ?_; dsimp only)); refine box_event ?hg (N := 6) ?hd (cs := #[.slice none 0 0, .slice none 0 0]) (t := 59) ?hr ?_; (case hd => rfl); (case hg => rfl); (case hr => first | (go_simp; done) | (go_simp; rfl)); intro gb409 hg w25 hbox hb; have n0_ := Aside0.mk (Kd.R_below (by (with_reducible repeat (first | apply Kd.R_alloc | apply Kd.R_drewN | apply Kd.R_drew)); exact HO404.out) hb); have n1_ := Aside0.mk (Kd.R_below (by (with_reducible repeat (first | apply Kd.R_alloc | apply Kd.R_drewN | apply Kd.R_drew)); exact HO407.out) hb); have n2_ := Aside0.mk (below_step (by repeat (first | (with_reducible first | exact HB.out | apply below_alloc | apply pw_below_drewN | apply below_drew1) | exact HB.out)) hb); have n3_ := Aside0.mk (hbox); have n4_ := Aside0.mk ((by rw [hg]; exact (below_size (by repeat (first | (with_reducible first | exact HB.out | apply below_alloc | apply pw_below_drewN | apply below_drew1) | exact HB.out))) : w.heap.size ≤ gb409)); have n5_ := Aside0.mk ((by rw [hg]; exact (below_size (by repeat (first | (with_reducible first | exact HB.out | apply below_alloc | apply pw_below_drewN | apply below_drew1) | exact HB.out))) : w.heap.size ≤ gb409)); clear HO404; clear HO407; clear HB; have HO404 := n0_; have HO407 := n1_; have HB := n2_; have BK409 := n3_; have GW409 := n4_; have GE409 := n5_; clear n0_ n1_ n2_ n3_ n4_ n5_; clear hb hbox hg; obtain ⟨Ao26, co26, eo26⟩ := Kd.R_slice HO404.out; subst eo26; have hcz27_0 : w25.cell? ⟨gb409, 0, none⟩ = some (.slice none 0 0) := (blk_cell BK409.out 0).trans rfl; have hcz27_1 : w25.cell? ⟨gb409, 1, none⟩ = some (.slice none 0 0) := (blk_cell BK409.out 1).trans rfl; have hfz27_0 := blk_frozen BK409.out 0; have hfz27_1 := blk_frozen BK409.out 1; obtain ⟨Ao28, co28, eo28⟩ := Kd.R_slice HO407.out; subst eo28))
    go_ret2
    exact ⟨by first | rfl | (simp [errW_none, errW_some] <;> rfl) | (simp [*, errW_none, errW_some] <;> rfl), by repeat (first | (with_reducible first | exact HB.out | apply below_alloc | apply pw_below_drewN | apply below_drew1 | refine below_set ?_ GE409.out) | exact HB.out)⟩

end Go.Proofs.Ytfklecicddpcjaa.P
end
