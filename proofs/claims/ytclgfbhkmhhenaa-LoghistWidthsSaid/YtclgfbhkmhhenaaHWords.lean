/- Small laws for printed walks that the kit's print lacks: a make of length 0 with a capacity that the code reckons. No condition beyond those in the statements. -/
import Derived.Test.YtclgfbhkmhhenaaWMore
import Derived.OwnWalk
import Derived.ChangeKeysEq
namespace Go.Proofs.Ytclgfbhkmhhenaa.Hand
open Go Go.RowKit Go.Proofs.YtclgfbhkmhhenaaW.PrintWords Go.Proofs.YtclgfbhkmhhenaaW.PrintMore
section
variable {α : Type} {P : Program} {ops : Array Oper} {rest : List Oper} {o : Oper} {a : Act} {Q : Exit → Act → World → Prop}
/-- 'make([]T, 0, n)': an empty row of the call's own. -/
theorem R_make0 (d : Kd α) {w0 W : World} (base e : Nat) (hgd : o.guard = none) (t : TypeId) (x y : Operand) (ho : o.op = .makeSlice t x y) (n : Int) (hx : a.eval x = .int .i64 0) (hy : a.eval y = .int .i64 n)
    (ht : P.underlying t = some (.slice e)) (z : Value) (bytes : Nat) (hinfo : (P.info? e).map (fun i => (i.zero, i.size, i.bytes)) = some (some z, d.sz, bytes))
    {ok : Nat → Prop} (hfresh : ok W.heap.size) (h0 : 0 ≤ n) (hl : n.toNat * bytes ≤ 281474976710656) (hm : n ≤ 281474976710656) (HB : Below base w0 W) (hbase : base ≤ W.heap.size)
    (h : ∀ v1 w1, d.R e w1 base ok v1 [] → Below base w0 w1 → W.grownBy w1 none → (∃ b, v1.ownBlock = some b ∧ W.heap.size ≤ b) → wpList P ops Q rest (a.put o.dst v1) w1) : wpList P ops Q (o :: rest) a W := by
  obtain ⟨m, rfl⟩ := Int.eq_ofNat_of_zero_le h0
  simp only [Int.toNat_natCast] at hl
  obtain ⟨i0, hi, hz0, hz1, hz2⟩ := info_parts hinfo
  refine wpList_make_own W hgd x y t ho base e i0 z d.sz ht hi hz0 hz1 .i64 .i64 (m : Int) m hx hy rfl (by rw [hz2, Nat.mul_comm]; exact hl) (by unfold maxLen; omega) hbase ?_
  intro w1 hown hg
  refine h _ w1 ⟨fun k hk => ?_, [], ?_, Reps.none _ _⟩ (HB.grown hg hbase (fun k e => by cases e)) hg ⟨W.heap.size, rfl, Nat.le_refl _⟩
  · simp only [Value.ownBlock, Option.some.injEq] at hk
    subst hk
    exact hfresh
  · exact hown
end
/-! Short names for printed texts that would be too long for a file. -/
theorem aS {p : Prop} (h : p) : Aside0 p := ⟨h⟩
section
variable {α : Type} {d : Kd α} {e : Nat} {w W : World} {base : Nat} {ok : Nat → Prop} {v : Value} {xs : List α}
theorem rA (h : Kd.R d e w base ok v xs) (o : Obj) : Kd.R d e (w.alloc o) base ok v xs := Kd.R_alloc h o
theorem rN (h : Kd.R d e w base ok v xs) (m : Nat) : Kd.R d e (w.drewN m) base ok v xs := Kd.R_drewN h m
theorem rD (h : Kd.R d e w base ok v xs) : Kd.R d e w.drew base ok v xs := Kd.R_drew h
theorem vA (h : Kd.V d e W base ok v xs) (o : Obj) : Kd.V d e (W.alloc o) base ok v xs := Kd.V_alloc h o
theorem vN (h : Kd.V d e W base ok v xs) (m : Nat) : Kd.V d e (W.drewN m) base ok v xs := Kd.V_drewN h m
theorem vD (h : Kd.V d e W base ok v xs) : Kd.V d e W.drew base ok v xs := Kd.V_drew h
theorem VR1 {base' : Nat} {A B R : Nat → Prop} (h : Kd.R d e W base (fun k => B k ∧ R k) v xs) : Kd.V d e W base' (fun k => (A k ∨ B k) ∧ R k) v xs := Kd.V_mono (Kd.R_V h) (fun _ hk => ⟨.inr hk.1, hk.2⟩)
theorem VR0 {base' : Nat} {A B : Nat → Prop} (h : Kd.R d e W base (fun k => B k) v xs) : Kd.V d e W base' (fun k => A k ∨ B k) v xs := Kd.V_mono (Kd.R_V h) (fun _ hk => .inr hk)
theorem bA (h : Below w.heap.size w W) (o : Obj) : Below w.heap.size w (W.alloc o) := below_alloc h o
theorem bN {B : Nat} (h : Below B w W) (n : Nat) : Below B w (W.drewN n) := pw_below_drewN h n
theorem bD (h : Below base w W) : Below base w W.drew := below_drew1 h
end
/-! '==' of arrays inside structs. -/
section
variable {P : Program} {d : Nat} {xs ys : Array Value} {e c i : Nat} {is : List Nat} {a b : Value} {r s : Bool} {w : World}
theorem eqi_cons (ha : (part e xs (i * c)).run P w = .ok a w) (hb : (part e ys (i * c)).run P w = .ok b w) (he : (Op.equalIn d e a b).run P w = .ok r w) (hr : (Op.eqItems d e c xs ys is).run P w = .ok s w) : (Op.eqItems d e c xs ys (i :: is)).run P w = .ok (r && s) w := by
  simp only [Op.eqItems, Sem.run_bind, ha, hb, he, Result.andThen_ok]
  cases r
  · simp
  · simpa using hr
theorem eqi_last (ha : (part e xs (i * c)).run P w = .ok a w) (hb : (part e ys (i * c)).run P w = .ok b w) (he : (Op.equalIn d e a b).run P w = .ok r w) : (Op.eqItems d e c xs ys [i]).run P w = .ok r w := by
  simp only [Op.eqItems, Sem.run_bind, ha, hb, he, Result.andThen_ok]
  cases r <;> simp
theorem eqArr_of {t : TypeId} {n : Nat} {l : List Nat} (hu : P.underlying t = some (.array n e)) (hi : (P.info? e).isSome = true) (hc : P.cellsOf e = c) (hl : List.range n = l) (h : (Op.eqItems d e c xs ys l).run P w = .ok r w) : (Op.equalIn (d + 1) t (.agg xs) (.agg ys)).run P w = .ok r w := by
  obtain ⟨i0, hi0⟩ := Option.isSome_iff_exists.1 hi
  rw [run_equalIn_array (P := P) w d xs ys hu hi0, hc, hl]
  exact h
end
end Go.Proofs.Ytclgfbhkmhhenaa.Hand
