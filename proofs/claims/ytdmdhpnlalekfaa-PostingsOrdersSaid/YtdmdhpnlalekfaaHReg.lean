/- The regions of postings.Merge that are left in any order: an append of a row to the merged rows. No further condition. -/
import Derived.Test.YtdmdhpnlalekfaaHMrgW
import Derived.OrdersHeld
import Derived.Deep.RegionHeld3
import Derived.Great.BuildSlice
namespace Go.Proofs.Ytdmdhpnlalekfaa.Hand
open Go.RowKit Go.Shelf Go.Proofs.YtdmdhpnlalekfaaW.PrintWords Go.Proofs.YtdmdhpnlalekfaaW.PrintMore Go.Proofs.Ytdmdhpnlalekfaa.Seq Go.Proofs.Ytdmdhpnlalekfaa.A
attribute [local go_sem] Oper.semAt_some
set_option linter.unusedVariables false
set_option linter.unusedSimpArgs false
theorem wp_one {o : Oper} {a : Act} {w : World} {K : Act → World → Prop} {Q : Exit → Act → World → Prop} (i : Tmp) (ho : o.op = .buildSlice 41 1 #[(0, .tmp i)]) {A : Option Addr} {n c : Nat} (hv : a.eval (.tmp i) = .slice A n c)
    (h : K (a.put o.dst (.slice (some ⟨w.heap.size, 0, none⟩) 1 1)) (w.alloc (.cells #[.slice A n c] 23))) : o.wp Try.prog a w K Q := by
  obtain ⟨ie, h1, h2, h3, h4⟩ := info_parts infoSl
  refine wp_buildSlice 41 23 1 _ ho _ ie (.slice none 0 0) Try.underlying41 h1 h2 (by rw [h3]; decide) (by rw [h3]; decide) ?_ h
  rw [h3]
  have e1 : (Value.slice A n c).cells = #[.slice A n c] := rfl
  have e0 : (Value.slice none 0 0).cells = #[.slice none 0 0] := rfl
  have er : Array.range 1 = #[0] := by decide
  simp [hv, Instr.fill, e1, e0, er]
theorem wp_get {o : Oper} {a : Act} {w : World} {K : Act → World → Prop} {Q : Exit → Act → World → Prop} (p : Tmp) (ho : o.op = .load 41 (.tmp p)) {b : Nat} {u : Value}
    (hp : a.eval (.tmp p) = .pointer (some ⟨b, 0, none⟩)) (hc : w.cell? ⟨b, 0, none⟩ = some u) (h : K (a.put o.dst u) w) : o.wp Try.prog a w K Q := by
  unfold Oper.wp execOp
  simp only [ho, hp]
  go_simp
  exact h
theorem info41 : (Try.prog.info? 41).map (·.size) = some 1 := by kernel_rfl
theorem wp_put {o : Oper} {a : Act} {w : World} {K : Act → World → Prop} {Q : Exit → Act → World → Prop} (p x : Tmp) (ho : o.op = .store 41 (.tmp p) (.tmp x)) {b : Nat} {A : Option Addr} {n c : Nat} {u : Value}
    (hp : a.eval (.tmp p) = .pointer (some ⟨b, 0, none⟩)) (hx : a.eval (.tmp x) = .slice A n c) (hb : Boxed w b 41 u) (h : K (a.put o.dst undef) (w.setCell ⟨b, 0, none⟩ (.slice A n c))) : o.wp Try.prog a w K Q := by
  have hrun : (Instr.storeAt 41 (.pointer (some ⟨b, 0, none⟩)) (.slice A n c)).run Try.prog w = .ok () (w.setCell ⟨b, 0, none⟩ (.slice A n c)) :=
    run_store_run 41 (.slice A n c) [.slice A n c] hb rfl info41 (by simp) (by simp [Value.oneCell'])
  unfold Oper.wp execOp
  simp only [ho, hp, hx, Sem.run_bind, Sem.run_pure, Result.andThen_ok, hrun]
  exact h
set_option maxRecDepth 100000 in
set_option maxHeartbeats 8000000 in
theorem reg9 {l n : Nat} {Q : Exit → Act → World → Prop} (hq : ¬ LetsOut Q) (hp : ∀ c a a' w, Q (.panic c) a w → Q (.panic c) a' w) (t0 t1 t2 t3 t6 t7 t8 t9 t10 t11 t12 t13 t14 t15 t16 t17 t18 t19 t20 t21 t22 t23 t24 t25 t26 t27 t28 t29 t30 t31 t32 t33 t34 t35 t36 t37 t38 t39 t40 t41 t42 t43 t44 : Value) {W X : World} {v : Value} {vs : List Value} {xs : List (List Int)} {pa : Addr} {A1 : Option Addr} {c1 : Nat} {x : List Int} (HV : HVS W X W.heap.size v vs xs) (HR : Row W X A1 x) (hc1 : x.length ≤ c1) (hx0 : W.cell? pa = some (.slice A1 x.length c1)) (hxs : xs.length < 1000000000)
    (h : ∀ (v1 : Value) (W2 : World), HVS W W2 W.heap.size v1 (vs ++ [.slice A1 x.length c1]) (xs ++ [x]) → Okh W.heap.size X W2 → Q .normal { tmps := #[t0, t1, t2, t3, .pointer (some ⟨W.heap.size, 0, none⟩), .slice (some pa) 1 1, t6, t7, t8, t9, t10, t11, t12, t13, t14, t15, t16, t17, t18, t19, t20, t21, t22, t23, v, .slice (some pa) 1 1, .pointer (some pa), .slice A1 x.length c1, .slice (some ⟨X.heap.size, 0, none⟩) 1 1, v1, t30, t31, t32, t33, t34, t35, t36, t37, t38, t39, t40, t41, t42, t43, t44], defers := [] } W2)
    : (Code.region 9 #[{ dst := some 24, op := Go.Op.load 41 (Go.Operand.tmp 4), type := 41, pos := "postings.go:116", after := #[], guard := none }, { dst := some 25, op := Go.Op.move (Go.Operand.tmp 5), type := 41, pos := "postings.go:116", after := #[], guard := none }, { dst := some 26, op := Go.Op.indexAddr 41 (Go.Operand.tmp 25) (Go.Operand.const (Go.Value.int Go.IntKind.i64 0)), type := 0, pos := "postings.go:116", after := #[{ on := 1, ground := Go.Ground.data }], guard := none }, { dst := some 27, op := Go.Op.load 23 (Go.Operand.tmp 26), type := 23, pos := "postings.go:116", after := #[{ on := 2, ground := Go.Ground.data }], guard := none }, { dst := some 28, op := Go.Op.buildSlice 41 1 #[(0, Go.Operand.tmp 27)], type := 41, pos := "postings.go:116", after := #[{ on := 3, ground := Go.Ground.data }], guard := none }, { dst := some 29, op := Go.Op.call { callee := Go.Callee.builtin Go.Builtin.append, args := #[Go.Operand.tmp 24, Go.Operand.tmp 28], argTypes := #[41, 41] }, type := 41, pos := "postings.go:116", after := #[{ on := 0, ground := Go.Ground.data }, { on := 4, ground := Go.Ground.data }], guard := none }, { dst := none, op := Go.Op.store 41 (Go.Operand.tmp 4) (Go.Operand.tmp 29), type := 0, pos := "postings.go:116", after := #[{ on := 5, ground := Go.Ground.data }, { on := 5, ground := Go.Ground.chain }, { on := 0, ground := Go.Ground.phase }, { on := 1, ground := Go.Ground.phase }, { on := 2, ground := Go.Ground.phase }, { on := 3, ground := Go.Ground.phase }, { on := 4, ground := Go.Ground.phase }, { on := 5, ground := Go.Ground.phase }], guard := none }] true).wpIn (Fence.wide.inRound l) n Try.prog Q { tmps := #[t0, t1, t2, t3, .pointer (some ⟨W.heap.size, 0, none⟩), .slice (some pa) 1 1, t6, t7, t8, t9, t10, t11, t12, t13, t14, t15, t16, t17, t18, t19, t20, t21, t22, t23, t24, t25, t26, t27, t28, t29, t30, t31, t32, t33, t34, t35, t36, t37, t38, t39, t40, t41, t42, t43, t44], defers := [] } X := by
  have hx1 : X.cell? pa = some (.slice A1 x.length c1) := Kd.cell_heap (fun k hk => HV.below.block k hk) hx0
  have HSX : Aside0 ((fun w' : World => w'.cell? pa = some (.slice A1 x.length c1) ∧ True) W) := ⟨⟨hx0, trivial⟩⟩
  have HVD : HVS W X.drew W.heap.size v vs xs := ⟨HV.box, HV.row, HV.rows.move ⟨fun _ _ => rfl, fun _ _ _ h => h⟩, below_drew1 HV.below, HV.lb⟩
  have HRD : Row W X.drew A1 x := HR.move ⟨fun _ _ => rfl, fun _ _ _ h => h⟩
  have hvc := HV.box.cell
  have hvf := HV.box.frozen
  have hva : (X.alloc (.cells #[.slice A1 x.length c1] 23)).cell? ⟨W.heap.size, 0, none⟩ = some v := cell_alloc hvc
  have hva2 : (X.drew.alloc (.cells #[.slice A1 x.length c1] 23)).cell? ⟨W.heap.size, 0, none⟩ = some v := hva
  have HVA := Aside0.mk HVD
  have HRA := Aside0.mk HRD
  have HLX := Aside0.mk hxs
  clear HV HR HVD HRD hx0
  refine round_held (fun w' : World => w'.cell? pa = some (.slice A1 x.length c1) ∧ True) (by kernel_rfl) (by kernel_rfl) hq ?_
  have hS : (fun w' : World => w'.cell? pa = some (.slice A1 x.length c1) ∧ True) X.drew := ⟨hx1, trivial⟩
  refine wpAnyH_take (i := 1) (oi := { dst := some 25, op := Go.Op.move (Go.Operand.tmp 5), type := 41, pos := "postings.go:116", after := #[], guard := none }) (v := ?va1) rfl (by kernel_rfl) (by kernel_rfl) (by kernel_rfl) (fun _ _ _ h => hp _ _ _ _ h) (Or.inl ⟨by rfl, ?hya1⟩) hS ?_
  case hya1 =>
    intro w9 hS9
    obtain ⟨s1, s2⟩ := hS9
    first | (go_simp; done) | (go_simp; with_reducible rfl)
  simp only [Act.put, List.setIfInBounds_toArray, List.set_cons_zero, List.set_cons_succ]
  refine wpAnyH_take (i := 2) (oi := { dst := some 26, op := Go.Op.indexAddr 41 (Go.Operand.tmp 25) (Go.Operand.const (Go.Value.int Go.IntKind.i64 0)), type := 0, pos := "postings.go:116", after := #[{ on := 1, ground := Go.Ground.data }], guard := none }) (v := ?va2) rfl (by kernel_rfl) (by kernel_rfl) (by kernel_rfl) (fun _ _ _ h => hp _ _ _ _ h) (Or.inl ⟨by rfl, ?hya2⟩) hS ?_
  case hya2 =>
    intro w9 hS9
    obtain ⟨s1, s2⟩ := hS9
    first | (go_simp; done) | (go_simp; with_reducible rfl)
  simp only [Act.put, List.setIfInBounds_toArray, List.set_cons_zero, List.set_cons_succ]
  refine wpAnyH_take (i := 3) (oi := { dst := some 27, op := Go.Op.load 23 (Go.Operand.tmp 26), type := 23, pos := "postings.go:116", after := #[{ on := 2, ground := Go.Ground.data }], guard := none }) (v := ?va3) rfl (by kernel_rfl) (by kernel_rfl) (by kernel_rfl) (fun _ _ _ h => hp _ _ _ _ h) (Or.inl ⟨by rfl, ?hya3⟩) hS ?_
  case hya3 =>
    intro w9 hS9
    obtain ⟨s1, s2⟩ := hS9
    first | (go_simp; done) | (go_simp; with_reducible rfl)
  simp only [Act.put, List.setIfInBounds_toArray, List.set_cons_zero, List.set_cons_succ]
  refine wpAnyH_ready (rs := [0, 4]) (by kernel_rfl) (by simp) (AllReadyH.cons (o := { dst := some 24, op := Go.Op.load 41 (Go.Operand.tmp 4), type := 41, pos := "postings.go:116", after := #[], guard := none }) rfl (fun K hK => ?_) (AllReadyH.cons (o := { dst := some 28, op := Go.Op.buildSlice 41 1 #[(0, Go.Operand.tmp 27)], type := 41, pos := "postings.go:116", after := #[{ on := 3, ground := Go.Ground.data }], guard := none }) rfl (fun K hK => ?_) AllReadyH.nil))
  · go_wp2
    refine hK.out _ _ hS (fun hS => ?_)
    try simp only [Act.put, List.setIfInBounds_toArray, List.set_cons_zero, List.set_cons_succ]
    refine wpAnyH_ready (rs := [4]) (by kernel_rfl) (by simp) (AllReadyH.cons (o := { dst := some 28, op := Go.Op.buildSlice 41 1 #[(0, Go.Operand.tmp 27)], type := 41, pos := "postings.go:116", after := #[{ on := 3, ground := Go.Ground.data }], guard := none }) rfl (fun K hK => ?_) AllReadyH.nil)
    rw [if_pos (by rfl)]
    refine wp_one 27 rfl rfl ?_
    refine hK.out _ _ (⟨cell_alloc hx1, trivial⟩ : (fun w' : World => w'.cell? pa = some (.slice A1 x.length c1) ∧ True) (X.drew.alloc (.cells #[.slice A1 x.length c1] 23))) (fun hS => ?_)
    try simp only [Act.put, List.setIfInBounds_toArray, List.set_cons_zero, List.set_cons_succ]
    refine wpAnyH_ready (rs := [5]) (by kernel_rfl) (by simp) (AllReadyH.cons (o := { dst := some 29, op := Go.Op.call { callee := Go.Callee.builtin Go.Builtin.append, args := #[Go.Operand.tmp 24, Go.Operand.tmp 28], argTypes := #[41, 41] }, type := 41, pos := "postings.go:116", after := #[{ on := 0, ground := Go.Ground.data }, { on := 4, ground := Go.Ground.data }], guard := none }) rfl (fun K hK => ?_) AllReadyH.nil)
    refine step_append_cells (w0 := W) (W := X.drew) W.heap.size (by rfl) (.tmp 24) (.tmp 28) 41 23 (.slice none 0 0) 1 24 rfl Try.underlying41 infoSl rfl (by decide) (by decide) v _ vs [.slice A1 x.length c1] rfl rfl rfl (by simp [Value.oneCell']) HVA.out.row HVA.out.below HVA.out.below.size (by omega) ?_
    intro v1 w1 hown hbb hg _
    obtain ⟨g', cap', rfl⟩ := ownsRow_succ hown
    obtain ⟨hbx, hvs, hok⟩ := HVA.out.append HRA.out hc1 hown hbb hg
    have HVS1 := Aside0.mk hvs
    have HOK1 := Aside0.mk hok
    have HBX1 := Aside0.mk hbx
    have HXB := Aside0.mk (sx_below HSX.out hbb)
    have HXB2 := Aside0.mk (sx_below HSX.out hvs.below)
    clear hown hbb hg hbx hvs hok
    refine hK.out _ _ HXB.out (fun hS => ?_)
    try simp only [Act.put, List.setIfInBounds_toArray, List.set_cons_zero, List.set_cons_succ]
    refine wpAnyH_ready (rs := [6]) (by kernel_rfl) (by simp) (AllReadyH.cons (o := { dst := none, op := Go.Op.store 41 (Go.Operand.tmp 4) (Go.Operand.tmp 29), type := 0, pos := "postings.go:116", after := #[{ on := 5, ground := Go.Ground.data }, { on := 5, ground := Go.Ground.chain }, { on := 0, ground := Go.Ground.phase }, { on := 1, ground := Go.Ground.phase }, { on := 2, ground := Go.Ground.phase }, { on := 3, ground := Go.Ground.phase }, { on := 4, ground := Go.Ground.phase }, { on := 5, ground := Go.Ground.phase }], guard := none }) rfl (fun K hK => ?_) AllReadyH.nil)
    rw [if_pos (by rfl)]
    refine wp_put 4 29 rfl rfl rfl HBX1.out ?_
    refine hK.out _ _ HXB2.out (fun hS => ?_)
    try simp only [Act.put, List.setIfInBounds_toArray, List.set_cons_zero, List.set_cons_succ]
    refine wpAnyH_done (by kernel_rfl) ?_ _
    exact h _ _ HVS1.out ((show Okh W.heap.size X X.drew from ⟨Nat.le_refl _, fun _ _ h _ _ => h⟩).trans HOK1.out)
  · rw [if_pos (by rfl)]
    refine wp_one 27 rfl rfl ?_
    refine hK.out _ _ (⟨cell_alloc hx1, trivial⟩ : (fun w' : World => w'.cell? pa = some (.slice A1 x.length c1) ∧ True) (X.drew.alloc (.cells #[.slice A1 x.length c1] 23))) (fun hS => ?_)
    try simp only [Act.put, List.setIfInBounds_toArray, List.set_cons_zero, List.set_cons_succ]
    refine wpAnyH_ready (rs := [0]) (by kernel_rfl) (by simp) (AllReadyH.cons (o := { dst := some 24, op := Go.Op.load 41 (Go.Operand.tmp 4), type := 41, pos := "postings.go:116", after := #[], guard := none }) rfl (fun K hK => ?_) AllReadyH.nil)
    go_wp2
    refine hK.out _ _ hS (fun hS => ?_)
    try simp only [Act.put, List.setIfInBounds_toArray, List.set_cons_zero, List.set_cons_succ]
    refine wpAnyH_ready (rs := [5]) (by kernel_rfl) (by simp) (AllReadyH.cons (o := { dst := some 29, op := Go.Op.call { callee := Go.Callee.builtin Go.Builtin.append, args := #[Go.Operand.tmp 24, Go.Operand.tmp 28], argTypes := #[41, 41] }, type := 41, pos := "postings.go:116", after := #[{ on := 0, ground := Go.Ground.data }, { on := 4, ground := Go.Ground.data }], guard := none }) rfl (fun K hK => ?_) AllReadyH.nil)
    refine step_append_cells (w0 := W) (W := X.drew) W.heap.size (by rfl) (.tmp 24) (.tmp 28) 41 23 (.slice none 0 0) 1 24 rfl Try.underlying41 infoSl rfl (by decide) (by decide) v _ vs [.slice A1 x.length c1] rfl rfl rfl (by simp [Value.oneCell']) HVA.out.row HVA.out.below HVA.out.below.size (by omega) ?_
    intro v1 w1 hown hbb hg _
    obtain ⟨g', cap', rfl⟩ := ownsRow_succ hown
    obtain ⟨hbx, hvs, hok⟩ := HVA.out.append HRA.out hc1 hown hbb hg
    have HVS1 := Aside0.mk hvs
    have HOK1 := Aside0.mk hok
    have HBX1 := Aside0.mk hbx
    have HXB := Aside0.mk (sx_below HSX.out hbb)
    have HXB2 := Aside0.mk (sx_below HSX.out hvs.below)
    clear hown hbb hg hbx hvs hok
    refine hK.out _ _ HXB.out (fun hS => ?_)
    try simp only [Act.put, List.setIfInBounds_toArray, List.set_cons_zero, List.set_cons_succ]
    refine wpAnyH_ready (rs := [6]) (by kernel_rfl) (by simp) (AllReadyH.cons (o := { dst := none, op := Go.Op.store 41 (Go.Operand.tmp 4) (Go.Operand.tmp 29), type := 0, pos := "postings.go:116", after := #[{ on := 5, ground := Go.Ground.data }, { on := 5, ground := Go.Ground.chain }, { on := 0, ground := Go.Ground.phase }, { on := 1, ground := Go.Ground.phase }, { on := 2, ground := Go.Ground.phase }, { on := 3, ground := Go.Ground.phase }, { on := 4, ground := Go.Ground.phase }, { on := 5, ground := Go.Ground.phase }], guard := none }) rfl (fun K hK => ?_) AllReadyH.nil)
    rw [if_pos (by rfl)]
    refine wp_put 4 29 rfl rfl rfl HBX1.out ?_
    refine hK.out _ _ HXB2.out (fun hS => ?_)
    try simp only [Act.put, List.setIfInBounds_toArray, List.set_cons_zero, List.set_cons_succ]
    refine wpAnyH_done (by kernel_rfl) ?_ _
    exact h _ _ HVS1.out ((show Okh W.heap.size X X.drew from ⟨Nat.le_refl _, fun _ _ h _ _ => h⟩).trans HOK1.out)
set_option maxRecDepth 100000 in
set_option maxHeartbeats 16000000 in
theorem reg10 {l n : Nat} {Q : Exit → Act → World → Prop} (hq : ¬ LetsOut Q) (hp : ∀ c a a' w, Q (.panic c) a w → Q (.panic c) a' w) (t0 t1 t2 t3 t6 t7 t8 t9 t10 t11 t12 t13 t14 t15 t16 t17 t18 t19 t20 t21 t22 t23 t24 t25 t26 t27 t28 t29 t30 t31 t32 t33 t34 t35 t36 t37 t38 t39 t40 t41 t42 t43 t44 : Value) {W X : World} {v : Value} {vs : List Value} {xs : List (List Int)} {pa : Addr} {A1 A2 : Option Addr} {c1 c2 : Nat} {x y : List Int} (HV : HVS W X W.heap.size v vs xs) (HR : Row W X A1 x) (hc1 : x.length ≤ c1) (hx0 : W.cell? pa = some (.slice A1 x.length c1)) (HR2 : Row W X A2 y) (hc2 : y.length ≤ c2) (hy0 : W.cell? ⟨pa.block, pa.off + 1, none⟩ = some (.slice A2 y.length c2)) (hxy : x.length + y.length < 17592186044416) (hxs : xs.length < 1000000000)
    (h : ∀ (u37 u38 v1 v2 : Value) (W2 : World), HVS W W2 W.heap.size v1 (vs ++ [v2]) (xs ++ [orL x y]) → Okh W.heap.size X W2 → Q .normal { tmps := #[t0, t1, t2, t3, .pointer (some ⟨W.heap.size, 0, none⟩), .slice (some pa) 2 2, t6, t7, t8, t9, t10, t11, t12, t13, t14, t15, t16, t17, t18, t19, t20, t21, t22, t23, t24, t25, t26, t27, t28, t29, v, .slice (some pa) 2 2, .pointer (some pa), .slice A1 x.length c1, .slice (some pa) 2 2, .pointer (some ⟨pa.block, pa.off + 1, none⟩), .slice A2 y.length c2, u37, u38, v1, t40, t41, t42, t43, t44], defers := [] } W2)
    : (Code.region 10 #[{ dst := some 30, op := Go.Op.load 41 (Go.Operand.tmp 4), type := 41, pos := "postings.go:119", after := #[], guard := none }, { dst := some 31, op := Go.Op.move (Go.Operand.tmp 5), type := 41, pos := "postings.go:119", after := #[], guard := none }, { dst := some 32, op := Go.Op.indexAddr 41 (Go.Operand.tmp 31) (Go.Operand.const (Go.Value.int Go.IntKind.i64 0)), type := 0, pos := "postings.go:119", after := #[{ on := 1, ground := Go.Ground.data }], guard := none }, { dst := some 33, op := Go.Op.load 23 (Go.Operand.tmp 32), type := 23, pos := "postings.go:119", after := #[{ on := 2, ground := Go.Ground.data }], guard := none }, { dst := some 34, op := Go.Op.move (Go.Operand.tmp 5), type := 41, pos := "postings.go:119", after := #[], guard := none }, { dst := some 35, op := Go.Op.indexAddr 41 (Go.Operand.tmp 34) (Go.Operand.const (Go.Value.int Go.IntKind.i64 1)), type := 0, pos := "postings.go:119", after := #[{ on := 4, ground := Go.Ground.data }], guard := none }, { dst := some 36, op := Go.Op.load 23 (Go.Operand.tmp 35), type := 23, pos := "postings.go:119", after := #[{ on := 5, ground := Go.Ground.data }], guard := none }, { dst := some 37, op := Go.Op.call { callee := Go.Callee.value (Go.Operand.func 41), args := #[Go.Operand.tmp 33, Go.Operand.tmp 36, Go.Operand.func 44], argTypes := #[23, 23, 52] }, type := 23, pos := "postings.go:119", after := #[{ on := 3, ground := Go.Ground.data }, { on := 6, ground := Go.Ground.data }], guard := none }, { dst := some 38, op := Go.Op.buildSlice 41 1 #[(0, Go.Operand.tmp 37)], type := 41, pos := "postings.go:119", after := #[{ on := 7, ground := Go.Ground.data }], guard := none }, { dst := some 39, op := Go.Op.call { callee := Go.Callee.builtin Go.Builtin.append, args := #[Go.Operand.tmp 30, Go.Operand.tmp 38], argTypes := #[41, 41] }, type := 41, pos := "postings.go:119", after := #[{ on := 0, ground := Go.Ground.data }, { on := 8, ground := Go.Ground.data }, { on := 7, ground := Go.Ground.chain }], guard := none }, { dst := none, op := Go.Op.store 41 (Go.Operand.tmp 4) (Go.Operand.tmp 39), type := 0, pos := "postings.go:119", after := #[{ on := 9, ground := Go.Ground.data }, { on := 9, ground := Go.Ground.chain }, { on := 0, ground := Go.Ground.phase }, { on := 1, ground := Go.Ground.phase }, { on := 2, ground := Go.Ground.phase }, { on := 3, ground := Go.Ground.phase }, { on := 4, ground := Go.Ground.phase }, { on := 5, ground := Go.Ground.phase }, { on := 6, ground := Go.Ground.phase }, { on := 7, ground := Go.Ground.phase }, { on := 8, ground := Go.Ground.phase }, { on := 9, ground := Go.Ground.phase }], guard := none }] true).wpIn (Fence.wide.inRound l) n Try.prog Q { tmps := #[t0, t1, t2, t3, .pointer (some ⟨W.heap.size, 0, none⟩), .slice (some pa) 2 2, t6, t7, t8, t9, t10, t11, t12, t13, t14, t15, t16, t17, t18, t19, t20, t21, t22, t23, t24, t25, t26, t27, t28, t29, t30, t31, t32, t33, t34, t35, t36, t37, t38, t39, t40, t41, t42, t43, t44], defers := [] } X := by
  have hx1 : X.cell? pa = some (.slice A1 x.length c1) := Kd.cell_heap (fun k hk => HV.below.block k hk) hx0
  have hy1 : X.cell? ⟨pa.block, pa.off + 1, none⟩ = some (.slice A2 y.length c2) := Kd.cell_heap (fun k hk => HV.below.block k hk) hy0
  have HSX : Aside0 ((fun w' : World => w'.cell? pa = some (.slice A1 x.length c1) ∧ w'.cell? ⟨pa.block, pa.off + 1, none⟩ = some (.slice A2 y.length c2)) W) := ⟨⟨hx0, hy0⟩⟩
  have HVD : HVS W X.drew W.heap.size v vs xs := ⟨HV.box, HV.row, HV.rows.move ⟨fun _ _ => rfl, fun _ _ _ h => h⟩, below_drew1 HV.below, HV.lb⟩
  have hvc := HV.box.cell
  have hvf := HV.box.frozen
  have hcall := combined_or.calls A1 c1 x A2 c2 y (orL x y) X.drew (HR _ ⟨fun _ _ => rfl, fun _ _ _ h => h⟩) hc1 (HR2 _ ⟨fun _ _ => rfl, fun _ _ _ h => h⟩) hc2 (by unfold combined_or.f combF orL; rw [if_pos hxy])
  have HVA := Aside0.mk HVD
  have HLX := Aside0.mk hxs
  clear HV HR HR2 HVD hx0 hy0
  refine round_held (fun w' : World => w'.cell? pa = some (.slice A1 x.length c1) ∧ w'.cell? ⟨pa.block, pa.off + 1, none⟩ = some (.slice A2 y.length c2)) (by kernel_rfl) (by kernel_rfl) hq ?_
  have hS : (fun w' : World => w'.cell? pa = some (.slice A1 x.length c1) ∧ w'.cell? ⟨pa.block, pa.off + 1, none⟩ = some (.slice A2 y.length c2)) X.drew := ⟨hx1, hy1⟩
  refine wpAnyH_take (i := 1) (oi := { dst := some 31, op := Go.Op.move (Go.Operand.tmp 5), type := 41, pos := "postings.go:119", after := #[], guard := none }) (v := ?va1) rfl (by kernel_rfl) (by kernel_rfl) (by kernel_rfl) (fun _ _ _ h => hp _ _ _ _ h) (Or.inl ⟨by rfl, ?hya1⟩) hS ?_
  case hya1 =>
    intro w9 hS9
    obtain ⟨s1, s2⟩ := hS9
    first | (go_simp; done) | (go_simp; with_reducible rfl)
  simp only [Act.put, List.setIfInBounds_toArray, List.set_cons_zero, List.set_cons_succ]
  refine wpAnyH_take (i := 2) (oi := { dst := some 32, op := Go.Op.indexAddr 41 (Go.Operand.tmp 31) (Go.Operand.const (Go.Value.int Go.IntKind.i64 0)), type := 0, pos := "postings.go:119", after := #[{ on := 1, ground := Go.Ground.data }], guard := none }) (v := ?va2) rfl (by kernel_rfl) (by kernel_rfl) (by kernel_rfl) (fun _ _ _ h => hp _ _ _ _ h) (Or.inl ⟨by rfl, ?hya2⟩) hS ?_
  case hya2 =>
    intro w9 hS9
    obtain ⟨s1, s2⟩ := hS9
    first | (go_simp; done) | (go_simp; with_reducible rfl)
  simp only [Act.put, List.setIfInBounds_toArray, List.set_cons_zero, List.set_cons_succ]
  refine wpAnyH_take (i := 3) (oi := { dst := some 33, op := Go.Op.load 23 (Go.Operand.tmp 32), type := 23, pos := "postings.go:119", after := #[{ on := 2, ground := Go.Ground.data }], guard := none }) (v := ?va3) rfl (by kernel_rfl) (by kernel_rfl) (by kernel_rfl) (fun _ _ _ h => hp _ _ _ _ h) (Or.inl ⟨by rfl, ?hya3⟩) hS ?_
  case hya3 =>
    intro w9 hS9
    obtain ⟨s1, s2⟩ := hS9
    first | (go_simp; done) | (go_simp; with_reducible rfl)
  simp only [Act.put, List.setIfInBounds_toArray, List.set_cons_zero, List.set_cons_succ]
  refine wpAnyH_take (i := 4) (oi := { dst := some 34, op := Go.Op.move (Go.Operand.tmp 5), type := 41, pos := "postings.go:119", after := #[], guard := none }) (v := ?va4) rfl (by kernel_rfl) (by kernel_rfl) (by kernel_rfl) (fun _ _ _ h => hp _ _ _ _ h) (Or.inl ⟨by rfl, ?hya4⟩) hS ?_
  case hya4 =>
    intro w9 hS9
    obtain ⟨s1, s2⟩ := hS9
    first | (go_simp; done) | (go_simp; with_reducible rfl)
  simp only [Act.put, List.setIfInBounds_toArray, List.set_cons_zero, List.set_cons_succ]
  refine wpAnyH_take (i := 5) (oi := { dst := some 35, op := Go.Op.indexAddr 41 (Go.Operand.tmp 34) (Go.Operand.const (Go.Value.int Go.IntKind.i64 1)), type := 0, pos := "postings.go:119", after := #[{ on := 4, ground := Go.Ground.data }], guard := none }) (v := ?va5) rfl (by kernel_rfl) (by kernel_rfl) (by kernel_rfl) (fun _ _ _ h => hp _ _ _ _ h) (Or.inl ⟨by rfl, ?hya5⟩) hS ?_
  case hya5 =>
    intro w9 hS9
    obtain ⟨s1, s2⟩ := hS9
    first | (go_simp; done) | (go_simp; with_reducible rfl)
  simp only [Act.put, List.setIfInBounds_toArray, List.set_cons_zero, List.set_cons_succ]
  refine wpAnyH_take (i := 6) (oi := { dst := some 36, op := Go.Op.load 23 (Go.Operand.tmp 35), type := 23, pos := "postings.go:119", after := #[{ on := 5, ground := Go.Ground.data }], guard := none }) (v := ?va6) rfl (by kernel_rfl) (by kernel_rfl) (by kernel_rfl) (fun _ _ _ h => hp _ _ _ _ h) (Or.inl ⟨by rfl, ?hya6⟩) hS ?_
  case hya6 =>
    intro w9 hS9
    obtain ⟨s1, s2⟩ := hS9
    first | (go_simp; done) | (go_simp; with_reducible rfl)
  simp only [Act.put, List.setIfInBounds_toArray, List.set_cons_zero, List.set_cons_succ]
  refine wpAnyH_ready (rs := [0, 7]) (by kernel_rfl) (by simp) (AllReadyH.cons (o := { dst := some 30, op := Go.Op.load 41 (Go.Operand.tmp 4), type := 41, pos := "postings.go:119", after := #[], guard := none }) rfl (fun K hK => ?_) (AllReadyH.cons (o := { dst := some 37, op := Go.Op.call { callee := Go.Callee.value (Go.Operand.func 41), args := #[Go.Operand.tmp 33, Go.Operand.tmp 36, Go.Operand.func 44], argTypes := #[23, 23, 52] }, type := 23, pos := "postings.go:119", after := #[{ on := 3, ground := Go.Ground.data }, { on := 6, ground := Go.Ground.data }], guard := none }) rfl (fun K hK => ?_) AllReadyH.nil))
  · rw [if_pos (by rfl)]
    refine wp_get 4 rfl rfl hvc ?_
    refine hK.out _ _ hS (fun hS => ?_)
    try simp only [Act.put, List.setIfInBounds_toArray, List.set_cons_zero, List.set_cons_succ]
    refine wpAnyH_ready (rs := [7]) (by kernel_rfl) (by simp) (AllReadyH.cons (o := { dst := some 37, op := Go.Op.call { callee := Go.Callee.value (Go.Operand.func 41), args := #[Go.Operand.tmp 33, Go.Operand.tmp 36, Go.Operand.func 44], argTypes := #[23, 23, 52] }, type := 23, pos := "postings.go:119", after := #[{ on := 3, ground := Go.Ground.data }, { on := 6, ground := Go.Ground.data }], guard := none }) rfl (fun K hK => ?_) AllReadyH.nil)
    go_wp2_with fail
    refine hcall.mono ?_
    rintro e X1 ⟨vo, rfl, hRo, hbo⟩
    obtain ⟨Ao, co, rfl, hco, _⟩ := Kd.R_reads hRo
    have HV1 := Aside0.mk (HVA.out.keep hbo)
    have HR1 : Aside0 (Row W X1 Ao (orL x y)) := ⟨Row.of_R hRo⟩
    have HO1 : Aside0 (Okh W.heap.size X X1) := ⟨(show Okh W.heap.size X X.drew from ⟨Nat.le_refl _, fun _ _ h _ _ => h⟩).trans (Okh.of_below hbo)⟩
    have hv1c := HV1.out.box.cell
    have hva : (X1.alloc (.cells #[.slice Ao (orL x y).length co] 23)).cell? ⟨W.heap.size, 0, none⟩ = some v := cell_alloc hv1c
    have HSC : Aside0 ((fun w' : World => w'.cell? pa = some (.slice A1 x.length c1) ∧ w'.cell? ⟨pa.block, pa.off + 1, none⟩ = some (.slice A2 y.length c2)) X1) := ⟨sx_below2 HSX.out HV1.out.below⟩
    clear hRo hbo
    refine hK.out _ _ HSC.out (fun hS => ?_)
    try simp only [Act.put, List.setIfInBounds_toArray, List.set_cons_zero, List.set_cons_succ]
    refine wpAnyH_ready (rs := [8]) (by kernel_rfl) (by simp) (AllReadyH.cons (o := { dst := some 38, op := Go.Op.buildSlice 41 1 #[(0, Go.Operand.tmp 37)], type := 41, pos := "postings.go:119", after := #[{ on := 7, ground := Go.Ground.data }], guard := none }) rfl (fun K hK => ?_) AllReadyH.nil)
    rw [if_pos (by rfl)]
    refine wp_one 37 rfl rfl ?_
    refine hK.out _ _ (⟨cell_alloc HSC.out.1, cell_alloc HSC.out.2⟩ : (fun w' : World => w'.cell? pa = some (.slice A1 x.length c1) ∧ w'.cell? ⟨pa.block, pa.off + 1, none⟩ = some (.slice A2 y.length c2)) ((X1.alloc (.cells #[.slice Ao (orL x y).length co] 23)))) (fun hS => ?_)
    try simp only [Act.put, List.setIfInBounds_toArray, List.set_cons_zero, List.set_cons_succ]
    refine wpAnyH_ready (rs := [9]) (by kernel_rfl) (by simp) (AllReadyH.cons (o := { dst := some 39, op := Go.Op.call { callee := Go.Callee.builtin Go.Builtin.append, args := #[Go.Operand.tmp 30, Go.Operand.tmp 38], argTypes := #[41, 41] }, type := 41, pos := "postings.go:119", after := #[{ on := 0, ground := Go.Ground.data }, { on := 8, ground := Go.Ground.data }, { on := 7, ground := Go.Ground.chain }], guard := none }) rfl (fun K hK => ?_) AllReadyH.nil)
    refine step_append_cells (w0 := W) (W := X1) W.heap.size (by rfl) (.tmp 30) (.tmp 38) 41 23 (.slice none 0 0) 1 24 rfl Try.underlying41 infoSl rfl (by decide) (by decide) v _ vs [.slice Ao (orL x y).length co] rfl rfl rfl (by simp [Value.oneCell']) HV1.out.row HV1.out.below HV1.out.below.size (by omega) ?_
    intro v1 w1 hown hbb hg _
    obtain ⟨g', cap', rfl⟩ := ownsRow_succ hown
    obtain ⟨hbx, hvs, hok⟩ := HV1.out.append HR1.out hco hown hbb hg
    have HVS1 := Aside0.mk hvs
    have HOK1 := Aside0.mk hok
    have HBX1 := Aside0.mk hbx
    have HXB := Aside0.mk (sx_below2 HSX.out hbb)
    have HXB2 := Aside0.mk (sx_below2 HSX.out hvs.below)
    clear hown hbb hg hbx hvs hok
    refine hK.out _ _ HXB.out (fun hS => ?_)
    try simp only [Act.put, List.setIfInBounds_toArray, List.set_cons_zero, List.set_cons_succ]
    refine wpAnyH_ready (rs := [10]) (by kernel_rfl) (by simp) (AllReadyH.cons (o := { dst := none, op := Go.Op.store 41 (Go.Operand.tmp 4) (Go.Operand.tmp 39), type := 0, pos := "postings.go:119", after := #[{ on := 9, ground := Go.Ground.data }, { on := 9, ground := Go.Ground.chain }, { on := 0, ground := Go.Ground.phase }, { on := 1, ground := Go.Ground.phase }, { on := 2, ground := Go.Ground.phase }, { on := 3, ground := Go.Ground.phase }, { on := 4, ground := Go.Ground.phase }, { on := 5, ground := Go.Ground.phase }, { on := 6, ground := Go.Ground.phase }, { on := 7, ground := Go.Ground.phase }, { on := 8, ground := Go.Ground.phase }, { on := 9, ground := Go.Ground.phase }], guard := none }) rfl (fun K hK => ?_) AllReadyH.nil)
    rw [if_pos (by rfl)]
    refine wp_put 4 39 rfl rfl rfl HBX1.out ?_
    refine hK.out _ _ HXB2.out (fun hS => ?_)
    try simp only [Act.put, List.setIfInBounds_toArray, List.set_cons_zero, List.set_cons_succ]
    refine wpAnyH_done (by kernel_rfl) ?_ _
    exact h _ _ _ _ _ HVS1.out (HO1.out.trans HOK1.out)
  · go_wp2_with fail
    refine hcall.mono ?_
    rintro e X1 ⟨vo, rfl, hRo, hbo⟩
    obtain ⟨Ao, co, rfl, hco, _⟩ := Kd.R_reads hRo
    have HV1 := Aside0.mk (HVA.out.keep hbo)
    have HR1 : Aside0 (Row W X1 Ao (orL x y)) := ⟨Row.of_R hRo⟩
    have HO1 : Aside0 (Okh W.heap.size X X1) := ⟨(show Okh W.heap.size X X.drew from ⟨Nat.le_refl _, fun _ _ h _ _ => h⟩).trans (Okh.of_below hbo)⟩
    have hv1c := HV1.out.box.cell
    have hva : (X1.alloc (.cells #[.slice Ao (orL x y).length co] 23)).cell? ⟨W.heap.size, 0, none⟩ = some v := cell_alloc hv1c
    have HSC : Aside0 ((fun w' : World => w'.cell? pa = some (.slice A1 x.length c1) ∧ w'.cell? ⟨pa.block, pa.off + 1, none⟩ = some (.slice A2 y.length c2)) X1) := ⟨sx_below2 HSX.out HV1.out.below⟩
    clear hRo hbo
    refine hK.out _ _ HSC.out (fun hS => ?_)
    try simp only [Act.put, List.setIfInBounds_toArray, List.set_cons_zero, List.set_cons_succ]
    refine wpAnyH_ready (rs := [0, 8]) (by kernel_rfl) (by simp) (AllReadyH.cons (o := { dst := some 30, op := Go.Op.load 41 (Go.Operand.tmp 4), type := 41, pos := "postings.go:119", after := #[], guard := none }) rfl (fun K hK => ?_) (AllReadyH.cons (o := { dst := some 38, op := Go.Op.buildSlice 41 1 #[(0, Go.Operand.tmp 37)], type := 41, pos := "postings.go:119", after := #[{ on := 7, ground := Go.Ground.data }], guard := none }) rfl (fun K hK => ?_) AllReadyH.nil))
    · rw [if_pos (by rfl)]
      refine wp_get 4 rfl rfl hv1c ?_
      refine hK.out _ _ HSC.out (fun hS => ?_)
      try simp only [Act.put, List.setIfInBounds_toArray, List.set_cons_zero, List.set_cons_succ]
      refine wpAnyH_ready (rs := [8]) (by kernel_rfl) (by simp) (AllReadyH.cons (o := { dst := some 38, op := Go.Op.buildSlice 41 1 #[(0, Go.Operand.tmp 37)], type := 41, pos := "postings.go:119", after := #[{ on := 7, ground := Go.Ground.data }], guard := none }) rfl (fun K hK => ?_) AllReadyH.nil)
      rw [if_pos (by rfl)]
      refine wp_one 37 rfl rfl ?_
      refine hK.out _ _ (⟨cell_alloc HSC.out.1, cell_alloc HSC.out.2⟩ : (fun w' : World => w'.cell? pa = some (.slice A1 x.length c1) ∧ w'.cell? ⟨pa.block, pa.off + 1, none⟩ = some (.slice A2 y.length c2)) ((X1.alloc (.cells #[.slice Ao (orL x y).length co] 23)))) (fun hS => ?_)
      try simp only [Act.put, List.setIfInBounds_toArray, List.set_cons_zero, List.set_cons_succ]
      refine wpAnyH_ready (rs := [9]) (by kernel_rfl) (by simp) (AllReadyH.cons (o := { dst := some 39, op := Go.Op.call { callee := Go.Callee.builtin Go.Builtin.append, args := #[Go.Operand.tmp 30, Go.Operand.tmp 38], argTypes := #[41, 41] }, type := 41, pos := "postings.go:119", after := #[{ on := 0, ground := Go.Ground.data }, { on := 8, ground := Go.Ground.data }, { on := 7, ground := Go.Ground.chain }], guard := none }) rfl (fun K hK => ?_) AllReadyH.nil)
      refine step_append_cells (w0 := W) (W := X1) W.heap.size (by rfl) (.tmp 30) (.tmp 38) 41 23 (.slice none 0 0) 1 24 rfl Try.underlying41 infoSl rfl (by decide) (by decide) v _ vs [.slice Ao (orL x y).length co] rfl rfl rfl (by simp [Value.oneCell']) HV1.out.row HV1.out.below HV1.out.below.size (by omega) ?_
      intro v1 w1 hown hbb hg _
      obtain ⟨g', cap', rfl⟩ := ownsRow_succ hown
      obtain ⟨hbx, hvs, hok⟩ := HV1.out.append HR1.out hco hown hbb hg
      have HVS1 := Aside0.mk hvs
      have HOK1 := Aside0.mk hok
      have HBX1 := Aside0.mk hbx
      have HXB := Aside0.mk (sx_below2 HSX.out hbb)
      have HXB2 := Aside0.mk (sx_below2 HSX.out hvs.below)
      clear hown hbb hg hbx hvs hok
      refine hK.out _ _ HXB.out (fun hS => ?_)
      try simp only [Act.put, List.setIfInBounds_toArray, List.set_cons_zero, List.set_cons_succ]
      refine wpAnyH_ready (rs := [10]) (by kernel_rfl) (by simp) (AllReadyH.cons (o := { dst := none, op := Go.Op.store 41 (Go.Operand.tmp 4) (Go.Operand.tmp 39), type := 0, pos := "postings.go:119", after := #[{ on := 9, ground := Go.Ground.data }, { on := 9, ground := Go.Ground.chain }, { on := 0, ground := Go.Ground.phase }, { on := 1, ground := Go.Ground.phase }, { on := 2, ground := Go.Ground.phase }, { on := 3, ground := Go.Ground.phase }, { on := 4, ground := Go.Ground.phase }, { on := 5, ground := Go.Ground.phase }, { on := 6, ground := Go.Ground.phase }, { on := 7, ground := Go.Ground.phase }, { on := 8, ground := Go.Ground.phase }, { on := 9, ground := Go.Ground.phase }], guard := none }) rfl (fun K hK => ?_) AllReadyH.nil)
      rw [if_pos (by rfl)]
      refine wp_put 4 39 rfl rfl rfl HBX1.out ?_
      refine hK.out _ _ HXB2.out (fun hS => ?_)
      try simp only [Act.put, List.setIfInBounds_toArray, List.set_cons_zero, List.set_cons_succ]
      refine wpAnyH_done (by kernel_rfl) ?_ _
      exact h _ _ _ _ _ HVS1.out (HO1.out.trans HOK1.out)
    · rw [if_pos (by rfl)]
      refine wp_one 37 rfl rfl ?_
      refine hK.out _ _ (⟨cell_alloc HSC.out.1, cell_alloc HSC.out.2⟩ : (fun w' : World => w'.cell? pa = some (.slice A1 x.length c1) ∧ w'.cell? ⟨pa.block, pa.off + 1, none⟩ = some (.slice A2 y.length c2)) ((X1.alloc (.cells #[.slice Ao (orL x y).length co] 23)))) (fun hS => ?_)
      try simp only [Act.put, List.setIfInBounds_toArray, List.set_cons_zero, List.set_cons_succ]
      refine wpAnyH_ready (rs := [0]) (by kernel_rfl) (by simp) (AllReadyH.cons (o := { dst := some 30, op := Go.Op.load 41 (Go.Operand.tmp 4), type := 41, pos := "postings.go:119", after := #[], guard := none }) rfl (fun K hK => ?_) AllReadyH.nil)
      rw [if_pos (by rfl)]
      refine wp_get 4 rfl rfl hva ?_
      refine hK.out _ _ (⟨cell_alloc HSC.out.1, cell_alloc HSC.out.2⟩ : (fun w' : World => w'.cell? pa = some (.slice A1 x.length c1) ∧ w'.cell? ⟨pa.block, pa.off + 1, none⟩ = some (.slice A2 y.length c2)) ((X1.alloc (.cells #[.slice Ao (orL x y).length co] 23)))) (fun hS => ?_)
      try simp only [Act.put, List.setIfInBounds_toArray, List.set_cons_zero, List.set_cons_succ]
      refine wpAnyH_ready (rs := [9]) (by kernel_rfl) (by simp) (AllReadyH.cons (o := { dst := some 39, op := Go.Op.call { callee := Go.Callee.builtin Go.Builtin.append, args := #[Go.Operand.tmp 30, Go.Operand.tmp 38], argTypes := #[41, 41] }, type := 41, pos := "postings.go:119", after := #[{ on := 0, ground := Go.Ground.data }, { on := 8, ground := Go.Ground.data }, { on := 7, ground := Go.Ground.chain }], guard := none }) rfl (fun K hK => ?_) AllReadyH.nil)
      refine step_append_cells (w0 := W) (W := X1) W.heap.size (by rfl) (.tmp 30) (.tmp 38) 41 23 (.slice none 0 0) 1 24 rfl Try.underlying41 infoSl rfl (by decide) (by decide) v _ vs [.slice Ao (orL x y).length co] rfl rfl rfl (by simp [Value.oneCell']) HV1.out.row HV1.out.below HV1.out.below.size (by omega) ?_
      intro v1 w1 hown hbb hg _
      obtain ⟨g', cap', rfl⟩ := ownsRow_succ hown
      obtain ⟨hbx, hvs, hok⟩ := HV1.out.append HR1.out hco hown hbb hg
      have HVS1 := Aside0.mk hvs
      have HOK1 := Aside0.mk hok
      have HBX1 := Aside0.mk hbx
      have HXB := Aside0.mk (sx_below2 HSX.out hbb)
      have HXB2 := Aside0.mk (sx_below2 HSX.out hvs.below)
      clear hown hbb hg hbx hvs hok
      refine hK.out _ _ HXB.out (fun hS => ?_)
      try simp only [Act.put, List.setIfInBounds_toArray, List.set_cons_zero, List.set_cons_succ]
      refine wpAnyH_ready (rs := [10]) (by kernel_rfl) (by simp) (AllReadyH.cons (o := { dst := none, op := Go.Op.store 41 (Go.Operand.tmp 4) (Go.Operand.tmp 39), type := 0, pos := "postings.go:119", after := #[{ on := 9, ground := Go.Ground.data }, { on := 9, ground := Go.Ground.chain }, { on := 0, ground := Go.Ground.phase }, { on := 1, ground := Go.Ground.phase }, { on := 2, ground := Go.Ground.phase }, { on := 3, ground := Go.Ground.phase }, { on := 4, ground := Go.Ground.phase }, { on := 5, ground := Go.Ground.phase }, { on := 6, ground := Go.Ground.phase }, { on := 7, ground := Go.Ground.phase }, { on := 8, ground := Go.Ground.phase }, { on := 9, ground := Go.Ground.phase }], guard := none }) rfl (fun K hK => ?_) AllReadyH.nil)
      rw [if_pos (by rfl)]
      refine wp_put 4 39 rfl rfl rfl HBX1.out ?_
      refine hK.out _ _ HXB2.out (fun hS => ?_)
      try simp only [Act.put, List.setIfInBounds_toArray, List.set_cons_zero, List.set_cons_succ]
      refine wpAnyH_done (by kernel_rfl) ?_ _
      exact h _ _ _ _ _ HVS1.out (HO1.out.trans HOK1.out)
end Go.Proofs.Ytdmdhpnlalekfaa.Hand
