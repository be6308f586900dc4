/- The contract of slices.ContainsFunc at the function of the statement Delivers, which captures a packet. No further condition. -/
import Derived.Test.YtkfplnbofgiknaaAx
import Derived.Test.YtkfplnbofgiknaaWMore
import Derived.Test.YtkfplnbofgiknaaWEqStruct
import Derived.WalkKit
import Derived.Deep.LoopGhost
import Derived.Deep.QuietTactic
import Derived.BigQuiet
namespace Go.Proofs.Ytkfplnbofgiknaa.Hand
open Go.RowKit Go.Proofs.YtkfplnbofgiknaaW.PrintWords Go.Proofs.YtkfplnbofgiknaaW.PrintLast Go.Proofs.YtkfplnbofgiknaaW.PrintMore Go.Proofs.Ytkfplnbofgiknaa.A
set_option linter.unusedVariables false
set_option linter.unusedSimpArgs false
namespace contains_other
theorem eqP (d : Nat) (w : World) (x0 y0 : Int) (x1 y1 : Int) (x2 y2 : ByteArray) :
    (Op.equalIn (d + 2) 27 (.agg #[.int .i64 x0, .int .i64 x1, .string x2]) (.agg #[.int .i64 y0, .int .i64 y1, .string y2])).run Try.prog w = .ok (x0 == y0 && (x1 == y1 && (x2.toList == y2.toList))) w := by
  refine eqA_of Try.underlying27 (by kernel_rfl) ?_
  refine eqf_cons (by rfl) (by go_simp; rfl) (by go_simp; rfl) (by go_simp) ?_
  refine eqf_cons (by rfl) (by go_simp; rfl) (by go_simp; rfl) (by go_simp) ?_
  exact eqf_last (by rfl) (by go_simp; rfl) (by go_simp; rfl) (by go_simp)
def other (a b : Int) (s : ByteArray) (q : S27) : Bool := !(q.f0 == a && (q.f1 == b && (q.f2.toList == s.toList)))
theorem bump {gb : Nat} {W : World} {o : Obj} {c : Array Value} {t : TypeId} {fz : Nat × Nat} (h : W.heap[gb]? = some (.cells c t fz)) (W' : World) (hb : Below W.heap.size W W') : W'.heap[gb]? = some (.cells c t fz) := (hb.block _ (Array.getElem?_eq_some_iff.1 h).1).trans h
set_option maxRecDepth 100000 in
set_option maxHeartbeats 2000000 in
theorem closure (a b : Int) (s : ByteArray) (q : S27) (gb : Nat) (w : World) (hb : w.heap[gb]? = some (.cells #[.int .i64 a, .int .i64 b, .string s] 27 (0, 0))) :
    Calls Try.prog 27 #[.agg #[.int .i64 q.f0, .int .i64 q.f1, .string q.f2], .pointer (some ⟨gb, 0, none⟩)] w fun e w' => e = .returned (.bool (other a b s q)) ∧ Below w.heap.size w w' := by
  have hB := (Below.refl w.heap.size w).alloc (Nat.le_refl _) (.cells #[.int .i64 q.f0, .int .i64 q.f1, .string q.f2] 27)
  have hb2 := blk_alloc hb (.cells #[.int .i64 q.f0, .int .i64 q.f1, .string q.f2] 27)
  have hc0 : (w.alloc (.cells #[.int .i64 q.f0, .int .i64 q.f1, .string q.f2] 27)).cell? ⟨gb, 0, none⟩ = some (.int .i64 a) := (blk_cell hb2 0).trans rfl
  have hc1 : (w.alloc (.cells #[.int .i64 q.f0, .int .i64 q.f1, .string q.f2] 27)).cell? ⟨gb, 1, none⟩ = some (.int .i64 b) := (blk_cell hb2 1).trans rfl
  have hc2 : (w.alloc (.cells #[.int .i64 q.f0, .int .i64 q.f1, .string q.f2] 27)).cell? ⟨gb, 2, none⟩ = some (.string s) := (blk_cell hb2 2).trans rfl
  go_enter Try.func27, Try.ntmps27
  go_wp2
  all_goals (go_ret; exact ⟨by simp [other, *], (Below.refl _ _).alloc (Nat.le_refl _) _⟩)
def pf (f : S27 → Bool) (l : List S27) (i : Int) : Prop := (i = -1 ∧ l.any f = false) ∨ ∃ k : Nat, ∃ h : k < l.length, i = (k : Int) ∧ (l.take k).any f = false ∧ f l[k] = true
theorem pf_any {f : S27 → Bool} {l : List S27} {i : Int} (h : pf f l i) : decide (0 ≤ i) = l.any f := by
  rcases h with ⟨rfl, h⟩ | ⟨k, hk, rfl, _, h⟩
  · rw [h]; rfl
  · rw [List.any_eq_true.2 ⟨_, List.getElem_mem hk, h⟩]; exact decide_eq_true (by omega)
set_option maxHeartbeats 2000000 in
set_option maxRecDepth 100000 in
theorem index (a b : Int) (s : ByteArray) (gb : Nat) (A0 : Option Addr) (c0 : Nat) (l0 : List S27) (w : World) (hb : w.heap[gb]? = some (.cells #[.int .i64 a, .int .i64 b, .string s] 27 (0, 0))) (hr0 : Kd.C k27 w A0 l0.length l0) (hc0 : l0.length ≤ c0) :
    Calls Try.prog 39 #[.slice A0 l0.length c0, .func (.func 27) #[] #[.pointer (some ⟨gb, 0, none⟩)]] w fun e w' => (∃ i : Int, e = .returned (.int .i64 i) ∧ pf (other a b s) l0 i) ∧ Below w.heap.size w w' := by
  have HR0 := Aside0.mk hr0
  have HC0 := Aside0.mk hc0
  have hlen := hr0.2.1
  have HBX := Aside0.mk hb
  clear hr0 hc0 hb
  go_enter Try.func39, Try.ntmps39
  go_wp2
  repeat (go_quiet (fail); try go_wp2)
  go_loopw [8, 5] (fun v8 v5 wr => ∃ k : Nat, k ≤ l0.length ∧ v8 = .int .i64 k ∧ Aside0 ((l0.take k).any (other a b s) = false) ∧ Aside0 (Below w.heap.size w wr)) (fun v8 _ _ => l0.length - (intOf v8).toNat)
  case atStart => exact ⟨0, Nat.zero_le _, rfl, ⟨by simp⟩, ⟨by repeat (first | exact Below.refl _ _ | apply pw_below_drewN)⟩⟩
  case round =>
    obtain ⟨k, hk, rfl, HP, HB⟩ := hrel
    by_cases hlt : k < l0.length
    · obtain ⟨x, hx⟩ : ∃ x : Int, x = (k : Int) := ⟨_, rfl⟩
      have p1 : 0 ≤ x := by omega
      have q1 : x < (l0.length : Int) := by omega
      obtain ⟨ad, e1, hx0, hx1, hx2⟩ := at_T27 (Kd.C_below HR0.out HB.out) x p1 q1
      cases e1
      subst hx
      clear p1 q1
      simp only [Int.toNat_natCast] at hx0 hx1 hx2
      obtain ⟨y, hy⟩ : ∃ y, y = rd_T27 l0 (k : Int) := ⟨_, rfl⟩
      have HY : Aside0 (y = l0[k]) := ⟨by rw [hy]; simp [rd_T27, List.getD, List.getElem?_eq_getElem hlt]⟩
      rw [← hy] at hx0 hx1 hx2
      have HZ := Aside0.mk hy
      clear hy
      have hcl := closure a b s y gb wr (blk_below HBX.out HB.out)
      by_cases hb : other a b s y = true
      · rw [hb] at hcl
        go_wp2_with fail
        refine hcl.mono ?_
        rintro e w' ⟨rfl, hbn⟩
        have HBN := Aside0.mk (below_step HB.out hbn)
        clear hbn hcl
        go_wp2
        repeat (go_quiet (fail); try go_wp2)
        go_ret
        exact ⟨⟨_, rfl, .inr ⟨k, hlt, rfl, HP.out, by rw [← HY.out]; exact hb⟩⟩, by repeat (first | exact HBN.out | apply pw_below_drewN)⟩
      · have hb : other a b s y = false := by simpa using hb
        rw [hb] at hcl
        go_wp2_with fail
        refine hcl.mono ?_
        rintro e w' ⟨rfl, hbn⟩
        have HBN := Aside0.mk (below_step HB.out hbn)
        clear hbn hcl
        go_wp2
        repeat (go_quiet (fail); try go_wp2)
        go_roundw
        case rel => exact ⟨k + 1, by omega, by go_num, ⟨by rw [List.take_succ_eq_append_getElem hlt, List.any_append, HP.out, ← HY.out]; simp [hb]⟩, ⟨by repeat (first | exact HBN.out | apply pw_below_drewN)⟩⟩
        case measure => simp [intOf]; omega
    · obtain rfl : k = l0.length := by omega
      go_wp2
      repeat (go_quiet (fail); try go_wp2)
      go_ret
      refine ⟨⟨_, rfl, .inl ⟨rfl, ?_⟩⟩, by repeat (first | exact HB.out | apply pw_below_drewN)⟩
      have := HP.out
      rw [List.take_length] at this
      exact this
def f (l0 : List S27) (a b : Int) (s : ByteArray) : Option Bool := some (l0.any (other a b s))
set_option maxHeartbeats 2000000 in
set_option maxRecDepth 100000 in
theorem calls (A0 : Option Addr) (c0 : Nat) (l0 : List S27) (a b : Int) (s : ByteArray) (r : Bool) (w : World) (gb : Nat) (hb : w.heap[gb]? = some (.cells #[.int .i64 a, .int .i64 b, .string s] 27 (0, 0))) (hr0 : Kd.C k27 w A0 l0.length l0) (hc0 : l0.length ≤ c0) (h : f l0 a b s = some r) :
    Calls Try.prog 26 #[.slice A0 l0.length c0, .func (.func 27) #[] #[.pointer (some ⟨gb, 0, none⟩)]] w fun e w' => e = .returned (.bool r) ∧ Below w.heap.size w w' := by
  simp only [f, Option.some.injEq] at h
  have H := Aside0.mk h
  clear h
  have hi := index a b s gb A0 c0 l0 w hb hr0 hc0
  clear hr0 hc0 hb
  go_enter Try.func26, Try.ntmps26
  go_wp2_with (go_at_call 39; refine hi.mono ?_; rintro e w' ⟨⟨i, rfl, h1⟩, hb1⟩; have H1 := Aside0.mk (pf_any h1); have HBN := Aside0.mk hb1; clear h1 hb1)
  repeat (go_quiet (fail); try go_wp2)
  go_ret
  exact ⟨by rw [← H.out, ← H1.out]; rfl, by repeat (first | exact HBN.out | apply pw_below_drewN)⟩
end contains_other
end Go.Proofs.Ytkfplnbofgiknaa.Hand
