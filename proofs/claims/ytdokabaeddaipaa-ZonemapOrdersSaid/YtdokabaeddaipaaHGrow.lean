/- slices.Grow at a nil slice of elements, and slices.Reverse of elements. No condition beyond those in the statements. -/
import Derived.Test.YtdokabaeddaipaaPx0
import Derived.Shelf.RegionOpenPlain
import Derived.WalkKit
import Derived.Deep.LoopGhost
namespace Go.Proofs.Ytdokabaeddaipaa.Hand
open Go.RowKit Go.Shelf Go.Proofs.YtdokabaeddaipaaW.PrintWords Go.Proofs.YtdokabaeddaipaaW.PrintLast Go.Proofs.YtdokabaeddaipaaW.PrintMore Go.Proofs.Ytdokabaeddaipaa.A Go.Proofs.Ytdokabaeddaipaa.P
set_option linter.unusedVariables false
set_option linter.unusedSimpArgs false
def grow_nil.f (a1 : Int) : Option (List S40) := if 0 ≤ a1 ∧ a1 * 40 ≤ 140737488355328 then some [] else none
theorem raw_S0 {d : Kd S40} {e : Nat} {w : World} {base : Nat} {ok : Nat → Prop} {v : Value} (h : (Kd.raw d.sz).R e w base ok v []) : Kd.S d e w base ok v [] := by
  obtain ⟨h0, inner, ho, hr⟩ := h
  exact ⟨fun _ => 0, h0, inner, ho, by
    have h1 := hr.1
    refine ⟨h1, fun j p hj => ?_⟩
    simp at hj⟩
set_option maxRecDepth 100000 in
set_option maxHeartbeats 4000000 in
theorem grow_nil.calls (a1 : Int) (r : List S40) (w : World) (h : grow_nil.f a1 = some r) :
    Calls Try.prog 41 #[.slice none 0 0, .int .i64 a1] w fun e w' => ∃ v0_ : Value, e = .returned v0_ ∧ Kd.S k40 40 w' w.heap.size (fun _ => True) v0_ r ∧ Below w.heap.size w w' := by
  unfold grow_nil.f at h
  split at h
  case isFalse => cases h
  rename_i hn
  cases h
  obtain ⟨h0, h1⟩ := hn
  go_enter Try.func41, Try.ntmps41
  have hw : wrap64 (a1 - wrap64 (0 - 0)) = a1 := by unfold wrap64; omega
  have t0 : decide (a1 < 0) = false := decide_eq_false (by omega)
  by_cases hp : a1 > 0
  · have t1 : decide (a1 > 0) = true := decide_eq_true hp
    go_wp2_with ((with_reducible refine gate_builtin (b := .append) (xs := #[.tmp 20, .tmp 21]) rfl ?_); at_builtin; refine Kd.R_append_zeros (Kd.raw 3) (w0 := w) w.heap.size rfl (.tmp 20) (.tmp 21) 42 3 40 (.agg #[(.int .i64 0), (.int .i64 0), (.slice none 0 0)]) 40 rfl Try.underlying42 Try.underlying3 info40 rfl (by decide) (by omega) (.slice none 0 0) [] [(.int .i64 0), (.int .i64 0), (.slice none 0 0)] a1 (fun _ => True) rfl rfl ⟨rfl, rfl, by decide⟩ (fun _ _ => trivial) (Kd.R_nil _ _ _ _ _) h0 (Below.refl _ _) (Nat.le_refl _) (by simp; omega) ?_; intro v1 w1 ho hb hg hat; obtain ⟨A1, c1, rfl⟩ := Kd.R_slice ho; have ho' := Aside0.mk ho; clear ho)
    go_ret
    exact ⟨_, rfl, raw_S0 (d := k40) (by have h := Kd.R_take (m := 0) ho'.out (Nat.zero_le _); simp only [List.take_zero] at h; exact h), hb⟩
  · have t1 : decide (a1 > 0) = false := decide_eq_false hp
    go_wp2
    go_ret
    exact ⟨_, rfl, Kd.S_nil _ _ _ _ _, Below.refl _ _⟩
/-- What stands at place t when i elements from each end have been exchanged. -/
def revAt (rows : List (List Value)) (i t : Nat) : Option (List Value) := if t < i ∨ rows.length - i ≤ t then rows.reverse[t]? else rows[t]?
theorem three {c : List Value} (h : c.length = 3) : ∃ a b d, c = [a, b, d] := by
  match c, h with
  | [a, b, d], _ => exact ⟨a, b, d, rfl⟩
theorem rev_step {ok : Nat → Prop} {rk : List (List Value)} {g n cap e b : Nat} {wr : World} (hr : (Kd.raw 3).R e wr b ok (.slice (some ⟨g, 0, none⟩) n cap) rk) {i jn : Nat} (hi : i < jn) (hj : jn < n) {u0 u1 u2 x0 x1 x2 : Value}
    (hu : ∀ u ∈ [u0, u1, u2], u.oneCell' = true) (hx : ∀ u ∈ [x0, x1, x2], u.oneCell' = true) :
    (Kd.raw 3).R e ((((((wr.setCell ⟨g, i * 3, none⟩ x0).setCell ⟨g, i * 3 + 1, none⟩ x1).setCell ⟨g, i * 3 + 2, none⟩ x2).setCell ⟨g, jn * 3, none⟩ u0).setCell ⟨g, jn * 3 + 1, none⟩ u1).setCell ⟨g, jn * 3 + 2, none⟩ u2).drew b ok (.slice (some ⟨g, 0, none⟩) n cap) ((rk.set i [x0, x1, x2]).set jn [u0, u1, u2]) ∧ wr.grownBy ((((((wr.setCell ⟨g, i * 3, none⟩ x0).setCell ⟨g, i * 3 + 1, none⟩ x1).setCell ⟨g, i * 3 + 2, none⟩ x2).setCell ⟨g, jn * 3, none⟩ u0).setCell ⟨g, jn * 3 + 1, none⟩ u1).setCell ⟨g, jn * 3 + 2, none⟩ u2).drew (some g) := by
  have hch : ((((((wr.setCell ⟨g, i * 3, none⟩ x0).setCell ⟨g, i * 3 + 1, none⟩ x1).setCell ⟨g, i * 3 + 2, none⟩ x2).setCell ⟨g, jn * 3, none⟩ u0).setCell ⟨g, jn * 3 + 1, none⟩ u1).setCell ⟨g, jn * 3 + 2, none⟩ u2).drew = ((wr.setCells g (i * 3) [x0, x1, x2]).setCells g (jn * 3) [u0, u1, u2]).drew := rfl
  rw [hch]
  have h0 := hr
  obtain ⟨c, hcl, hM, hcc, _⟩ := Kd.R_elem h0 [] (i : Int) (by omega) (by omega)
  obtain ⟨h1, g1⟩ := Kd.R_seg (okp := fun _ => False) h0 (i : Int) (by omega) (by omega) hcl hcc (j := 0) (seg := [x0, x1, x2]) (by simp [Kd.raw]) (x' := [x0, x1, x2]) (by
    have e3 : c.length = 3 := hcl
    rw [List.take_zero, List.nil_append, Nat.zero_add, List.drop_eq_nil_of_le (by simp [e3]), List.append_nil]
    exact ⟨rfl, rfl, hx⟩) (fun _ hk => hk.elim)
  obtain ⟨c', hcl', hM', hcc', _⟩ := Kd.R_elem h1 [] (jn : Int) (by omega) (by omega)
  obtain ⟨h2, g2⟩ := Kd.R_seg (okp := fun _ => False) h1 (jn : Int) (by omega) (by omega) hcl' hcc' (j := 0) (seg := [u0, u1, u2]) (by simp [Kd.raw]) (x' := [u0, u1, u2]) (by
    have e3 : c'.length = 3 := hcl'
    rw [List.take_zero, List.nil_append, Nat.zero_add, List.drop_eq_nil_of_le (by simp [e3]), List.append_nil]
    exact ⟨rfl, rfl, hu⟩) (fun _ hk => hk.elim)
  have gd : ∀ w : World, w.grownBy w.drew (some g) := fun w => ⟨rfl, rfl, rfl, Nat.le_refl _, fun _ _ _ => rfl⟩
  exact ⟨Kd.R_drew h2, (g1.trans g2).trans (gd _)⟩
set_option maxRecDepth 100000 in
set_option maxHeartbeats 4000000 in
theorem rev_raw {ok : Nat → Prop} (rows : List (List Value)) (g cap : Nat) (w : World) (b : Nat) (hR : (Kd.raw 3).R 40 w b ok (.slice (some ⟨g, 0, none⟩) rows.length cap) rows) (hsz : rows.length ≤ 9223372036854775807) :
    Calls Try.prog 27 #[.slice (some ⟨g, 0, none⟩) rows.length cap] w fun e w' => e = .returned (.tuple #[]) ∧ (Kd.raw 3).R 40 w' b ok (.slice (some ⟨g, 0, none⟩) rows.length cap) rows.reverse ∧ w.grownBy w' (some g) := by
  have hw1 : wrap64 ((rows.length : Int) - 1) = (rows.length : Int) - 1 := by unfold wrap64; omega
  go_enter Try.func27, Try.ntmps27
  go_wp2
  go_loopg [2, 3] rows.length (fun k s2 s3 wr => ∃ (i : Nat) (rk : List (List Value)), s2 = .int .i64 (i : Int) ∧ s3 = .int .i64 ((rows.length : Int) - 1 - i) ∧ 2 * i ≤ rows.length ∧ rows.length - i ≤ k ∧ rk.length = rows.length ∧ (∀ t, rk[t]? = revAt rows i t) ∧
    Aside0 ((Kd.raw 3).R 40 wr b ok (.slice (some ⟨g, 0, none⟩) rows.length cap) rk) ∧ Aside0 (w.grownBy wr (some g)))
  case atStart => exact ⟨0, rows, rfl, by simp, by omega, by omega, rfl, fun t => by
    unfold revAt
    by_cases h : rows.length ≤ t
    · rw [if_pos (by omega), List.getElem?_eq_none h, List.getElem?_eq_none (by simpa using h)]
    · rw [if_neg (by omega)], ⟨hR⟩, ⟨World.grownBy.refl _ _⟩⟩
  case round =>
    obtain ⟨i, rk, rfl, rfl, h2, hk, hl, hat, hr, hg⟩ := hrel
    by_cases hlt : (i : Int) < (rows.length : Int) - 1 - i
    · have d0 : decide ((i : Int) < (rows.length : Int) - 1 - i) = true := decide_eq_true hlt
      obtain ⟨ci, il, im, ic, ifz⟩ := Kd.R_elem hr.out [] (i : Int) (by omega) (by omega)
      obtain ⟨cj, jl, jm, jc, jfz⟩ := Kd.R_elem hr.out [] ((rows.length : Int) - 1 - i) (by omega) (by omega)
      obtain ⟨u0, u1, u2, rfl⟩ := three il
      obtain ⟨x0, x1, x2, rfl⟩ := three jl
      have A0 := Aside0.mk (And.intro im jm)
      clear im jm
      obtain ⟨jn, hjn⟩ : ∃ jn : Nat, (rows.length : Int) - 1 - i = jn := ⟨rows.length - 1 - i, by omega⟩
      rw [hjn] at d0 jc jfz ⊢
      simp only [Int.toNat_natCast] at ic ifz jc jfz
      have e0 := ic 0 u0 rfl
      have e1 := ic 1 u1 rfl
      have e2 := ic 2 u2 rfl
      have f0 := jc 0 x0 rfl
      have f1 := jc 1 x1 rfl
      have f2 := jc 2 x2 rfl
      have p0 := ifz 0
      have p1 := ifz 1
      have p2 := ifz 2
      have q0 := jfz 0
      have q1 := jfz 1
      have q2 := jfz 2
      have i0 : decide (0 ≤ (i : Int)) = true := decide_eq_true (by omega)
      have i1 : decide ((i : Int) < (rows.length : Int)) = true := decide_eq_true (by omega)
      have j0 : decide (0 ≤ (jn : Int)) = true := decide_eq_true (by omega)
      have j1 : decide ((jn : Int) < (rows.length : Int)) = true := decide_eq_true (by omega)
      dsimp only [Kd.raw] at e0 e1 e2 f0 f1 f2 p0 p1 p2 q0 q1 q2
      simp only [Nat.add_zero] at e0 f0 p0 q0
      have ni : i < rows.length := by omega
      have nj : jn < rows.length := by omega
      clear ic ifz jc jfz il jl
      obtain ⟨v0, v1, v2⟩ : u0.oneCell' = true ∧ u1.oneCell' = true ∧ u2.oneCell' = true := ⟨A0.out.1.2.2 _ (by simp), A0.out.1.2.2 _ (by simp), A0.out.1.2.2 _ (by simp)⟩
      obtain ⟨y0, y1, y2⟩ : x0.oneCell' = true ∧ x1.oneCell' = true ∧ x2.oneCell' = true := ⟨A0.out.2.2.2 _ (by simp), A0.out.2.2.2 _ (by simp), A0.out.2.2.2 _ (by simp)⟩
      have su0 : ∀ (w : World) (a : Addr) (m : Mode), Sem.run Try.prog (store a u0 m) w = stored Try.prog w a u0 m := fun w a m => run_store _ w a u0 m v0
      have su1 : ∀ (w : World) (a : Addr) (m : Mode), Sem.run Try.prog (store a u1 m) w = stored Try.prog w a u1 m := fun w a m => run_store _ w a u1 m v1
      have su2 : ∀ (w : World) (a : Addr) (m : Mode), Sem.run Try.prog (store a u2 m) w = stored Try.prog w a u2 m := fun w a m => run_store _ w a u2 m v2
      have sx0 : ∀ (w : World) (a : Addr) (m : Mode), Sem.run Try.prog (store a x0 m) w = stored Try.prog w a x0 m := fun w a m => run_store _ w a x0 m y0
      have sx1 : ∀ (w : World) (a : Addr) (m : Mode), Sem.run Try.prog (store a x1 m) w = stored Try.prog w a x1 m := fun w a m => run_store _ w a x1 m y1
      have sx2 : ∀ (w : World) (a : Addr) (m : Mode), Sem.run Try.prog (store a x2 m) w = stored Try.prog w a x2 m := fun w a m => run_store _ w a x2 m y2
      go_wp2_with fail
      go_region_o
      go_wp2
      go_roundg (rows.length - (i + 1))
      case measure => omega
      case rel =>
        have eu : rk[i]? = some [u0, u1, u2] := by
          have := A0.out.1.1
          rw [this, Int.toNat_natCast, List.getD_eq_getElem?_getD, List.getElem?_eq_getElem (by omega)]
          rfl
        have ex : rk[jn]? = some [x0, x1, x2] := by
          have := A0.out.2.1
          rw [this, show ((rows.length : Int) - 1 - i).toNat = jn by omega, List.getD_eq_getElem?_getD, List.getElem?_eq_getElem (by omega)]
          rfl
        obtain ⟨hR2, hG2⟩ := rev_step hr.out ‹i < jn› nj A0.out.1.2.2 A0.out.2.2.2
        refine ⟨i + 1, (rk.set i [x0, x1, x2]).set jn [u0, u1, u2], by simp, by congr 1; omega, by omega, by omega, by simp [hl], fun t => ?_, ⟨hR2⟩, ⟨hg.out.trans hG2⟩⟩
        have ha := hat t
        have hi' := hat i
        have hj' := hat jn
        rw [eu] at hi'
        rw [ex] at hj'
        unfold revAt at ha hi' hj' ⊢
        rw [if_neg (by omega)] at hi' hj'
        by_cases h1 : t = jn
        · subst h1
          rw [List.getElem?_set_self (by simp; omega), if_pos (by omega), List.getElem?_reverse (by omega), hi']
          congr 1
          omega
        · rw [List.getElem?_set_ne (by omega)]
          by_cases h3 : t = i
          · subst h3
            rw [List.getElem?_set_self (by omega), if_pos (by omega), List.getElem?_reverse (by omega), hj']
            congr 1
            omega
          · rw [List.getElem?_set_ne (by omega), ha]
            by_cases h4 : t < i ∨ rows.length - i ≤ t
            · rw [if_pos h4, if_pos (by omega)]
            · rw [if_neg h4, if_neg (by omega)]
    · have d0 : decide ((i : Int) < (rows.length : Int) - 1 - i) = false := decide_eq_false hlt
      go_wp2
      go_end0
      have e : rk = rows.reverse := by
        apply List.ext_getElem?
        intro t
        rw [hat t]
        unfold revAt
        by_cases h : t < i ∨ rows.length - i ≤ t
        · rw [if_pos h]
        · rw [if_neg h, List.getElem?_reverse (by omega)]
          congr 1
          omega
      rw [← e]
      exact ⟨rfl, hr.out, hg.out⟩
set_option maxRecDepth 100000 in
set_option maxHeartbeats 4000000 in
theorem rev_nil (cap : Nat) (w : World) : Calls Try.prog 27 #[.slice none 0 cap] w fun e w' => e = .returned (.tuple #[]) ∧ w' = w := by
  have hw1 : wrap64 (0 - 1) = -1 := by unfold wrap64; omega
  go_enter Try.func27, Try.ntmps27
  go_wp2
  go_loopg [2, 3] 0 (fun k s2 s3 wr => s2 = .int .i64 0 ∧ s3 = .int .i64 (-1) ∧ wr = w)
  case atStart => exact ⟨rfl, by simp, rfl⟩
  case round =>
    obtain ⟨rfl, rfl, rfl⟩ := hrel
    go_wp2
    go_end0
    exact ⟨rfl, rfl⟩
def reverse_el.f (l : List S40) : Option Unit := some ()
theorem reverse_el.calls {ok : Nat → Prop} {v : Value} {l : List S40} {b : Nat} {w : World} (h : Kd.N k40 40 w b ok v l) :
    Calls Try.prog 27 #[v] w fun e w' => e = .returned (.tuple #[]) ∧ Kd.N k40 40 w' b ok v l.reverse ∧ w.grownBy w' v.ownBlock := by
  obtain ⟨hown, rows, hl, hR, hf⟩ := h
  obtain ⟨A, c, hv⟩ := Kd.R_slice hR
  subst hv
  cases A with
  | none =>
    have h0 : rows = [] := by
      obtain ⟨_, inner, ho, _⟩ := hR
      rcases ho.2 with ⟨hv, hn⟩ | ⟨g, cap', cur, hv, _⟩
      · exact List.eq_nil_of_length_eq_zero hn
      · cases hv
    subst h0
    obtain rfl : l = [] := List.eq_nil_of_length_eq_zero hl.symm
    refine (rev_nil c w).mono ?_
    rintro e w' ⟨rfl, rfl⟩
    exact ⟨rfl, ⟨hown, [], rfl, hR, fun j x c hx => by simp at hx⟩, World.grownBy.refl _ _⟩
  | some ad =>
    obtain ⟨g, rfl⟩ := Kd.R_head hR
    have hsz : rows.length ≤ 9223372036854775807 := by
      obtain ⟨_, inner, ho, _⟩ := hR
      have hmx : maxLen = 9223372036854775807 := rfl
      rcases ho.2 with ⟨hv, _⟩ | ⟨g', cap', cur, hv, _, _, hn, hm, _⟩
      · cases hv
      · omega
    refine (rev_raw rows g c w b hR hsz).mono ?_
    rintro e w' ⟨rfl, hR2, hg⟩
    refine ⟨rfl, ⟨hown, rows.reverse, by simp [hl], hR2, fun j x cs hx hc => ?_⟩, hg⟩
    have hjl : j < l.length := by have := (List.getElem?_eq_some_iff.1 hx).1; rwa [List.length_reverse] at this
    rw [List.getElem?_reverse hjl] at hx
    rw [List.getElem?_reverse (by omega), hl] at hc
    exact Kd.FK_step (hf _ x cs hx hc) (fun k hk hlt => hg.block k hlt hk.2)
end Go.Proofs.Ytdokabaeddaipaa.Hand
