/- slices.Clone and slices.Reverse at rows of rows of numbers: the slices themselves, as they lie in the row. No further condition. -/
import Derived.Test.YtdmdhpnlalekfaaHMrg
import Derived.Shelf.RegionOpenPlain
import Derived.Deep.LoopGhost
namespace Go.Proofs.Ytdmdhpnlalekfaa.Hand
open Go.RowKit Go.Shelf Go.Proofs.YtdmdhpnlalekfaaW.PrintWords Go.Proofs.YtdmdhpnlalekfaaW.PrintMore Go.Proofs.Ytdmdhpnlalekfaa.Seq Go.Proofs.Ytdmdhpnlalekfaa.A
set_option linter.unusedVariables false
set_option linter.unusedSimpArgs false
/-- A slice's three parts. -/
abbrev HD := Option Addr × Nat × Nat
def encS (h : HD) : Value := .slice h.1 h.2.1 h.2.2
abbrev kS : Kd HD := Kd.scalar encS (fun _ => rfl)
/-- The slices hs are the rows l, read in the world w. -/
def Told (w : World) (hs : List HD) (l : List (List Int)) : Prop := hs.length = l.length ∧ ∀ (i : Nat) (x : List Int), l[i]? = some x → ∃ (A : Option Addr) (c : Nat), hs[i]? = some (A, x.length, c) ∧ x.length ≤ c ∧ Kd.C (Kd.int .i64) w A x.length x
theorem Told.rev {w : World} {hs : List HD} {l : List (List Int)} (h : Told w hs l) : Told w hs.reverse l.reverse := by
  refine ⟨by simp [h.1], fun i x hi => ?_⟩
  have hlt : i < l.length := by have := (List.getElem?_eq_some_iff.1 hi).1; simpa using this
  rw [List.getElem?_reverse hlt] at hi
  obtain ⟨A, c, h1, h2, h3⟩ := h.2 _ x hi
  exact ⟨A, c, by rw [List.getElem?_reverse (by rw [h.1]; exact hlt), h.1]; exact h1, h2, h3⟩
theorem Told.of_C : ∀ {w : World} {A : Option Addr} {n : Nat} {l : List (List Int)}, Kd.C (Kd.slice 3 (Kd.int .i64)) w A n l → ∃ hs, Told w hs l ∧ Kd.C kS w A n hs := by
  intro w A n l h
  obtain ⟨h1, h2, h3⟩ := h
  have hx : ∀ (j : Nat) (p : List Int), l[j]? = some p → ∃ (A' : Option Addr) (c' : Nat), p.length ≤ c' ∧ Kd.C (Kd.int .i64) w A' p.length p ∧ ∀ ad, A = some ad → w.cell? (ad.add j) = some (.slice A' p.length c') := by
    intro j p hj
    have hn : 0 < n := by have := (List.getElem?_eq_some_iff.1 hj).1; omega
    obtain ⟨ad, e, hc⟩ := h3 hn
    obtain ⟨c, hcl, ⟨A', c', rfl, hl, hC⟩, hcell⟩ := hc j p hj
    refine ⟨A', c', hl, hC, fun ad' e' => ?_⟩
    rw [e] at e'; cases e'
    have := hcell 0 _ rfl
    simpa [Kd.slice] using this
  have hx2 : ∀ j : Nat, ∃ h : HD, ∀ p : List Int, l[j]? = some p → h.2.1 = p.length ∧ p.length ≤ h.2.2 ∧ Kd.C (Kd.int .i64) w h.1 p.length p ∧ ∀ ad, A = some ad → w.cell? (ad.add j) = some (encS h) := by
    intro j
    rcases Nat.lt_or_ge j l.length with hj | hj
    · obtain ⟨A', c', a1, a2, a3⟩ := hx j l[j] (List.getElem?_eq_getElem hj)
      refine ⟨(A', l[j].length, c'), fun p hp => ?_⟩
      rw [List.getElem?_eq_getElem hj] at hp
      cases hp
      exact ⟨rfl, a1, a2, a3⟩
    · exact ⟨(none, 0, 0), fun p hp => by rw [List.getElem?_eq_none hj] at hp; cases hp⟩
  obtain ⟨f, hf⟩ := Classical.axiomOfChoice hx2
  have hat : ∀ i, i < l.length → ((List.range l.length).map f)[i]? = some (f i) := fun i hi => by simp [hi]
  refine ⟨(List.range l.length).map f, ⟨by simp, fun i x hi => ?_⟩, by simp [h1], h2, fun hn => ?_⟩
  · have hlt := (List.getElem?_eq_some_iff.1 hi).1
    obtain ⟨b1, b2, b3, _⟩ := hf i x hi
    exact ⟨(f i).1, (f i).2.2, by rw [hat i hlt, ← b1], b2, b3⟩
  · obtain ⟨ad, e, hc⟩ := h3 hn
    refine ⟨ad, e, fun j p hj => ⟨[encS p], rfl, rfl, fun i u hu => ?_⟩⟩
    have hlt : j < l.length := by have := (List.getElem?_eq_some_iff.1 hj).1; simpa using this
    rw [hat j hlt] at hj
    cases hj
    obtain ⟨_, _, _, b4⟩ := hf j l[j] (List.getElem?_eq_getElem hlt)
    cases i with
    | zero =>
      simp at hu
      subst hu
      have := b4 ad e
      show w.cell? (ad.add (j * 1 + 0)) = _
      rw [Nat.mul_one, Nat.add_zero]
      exact this
    | succ i => simp at hu
/-- A row of slices of the call's own whose rows are read in the world w. -/
def OWN (w W : World) (v : Value) (l : List (List Int)) : Prop := ∃ hs, Kd.R kS 23 W w.heap.size (fun _ => True) v hs ∧ Told w hs l
theorem OWN.below {w W W' : World} {v : Value} {l : List (List Int)} (h : OWN w W v l) (hb : Below W.heap.size W W') : OWN w W' v l := by
  obtain ⟨hs, h1, h2⟩ := h
  exact ⟨hs, Kd.R_below h1 hb, h2⟩
theorem OWN.slice {w W : World} {v : Value} {l : List (List Int)} (h : OWN w W v l) : ∃ A c, v = .slice A l.length c ∧ l.length ≤ c := by
  obtain ⟨hs, h1, h2⟩ := h
  obtain ⟨A, c, rfl, hl, _⟩ := Kd.R_reads h1
  exact ⟨A, c, by rw [h2.1], by rw [← h2.1]; exact hl⟩
theorem OWN.read {w W : World} {A : Option Addr} {c : Nat} {l : List (List Int)} (h : OWN w W (.slice A l.length c) l) (hb : Below w.heap.size w W) : Kd.C (Kd.slice 3 (Kd.int .i64)) W A l.length l := by
  obtain ⟨hs, h1, h2, h3⟩ := h
  obtain ⟨hn, _, hC⟩ := Kd.R_reads' h1
  obtain ⟨g1, g2, g3⟩ := hC
  refine ⟨rfl, by omega, fun hpos => ?_⟩
  obtain ⟨ad, e, hc⟩ := g3 (by omega)
  refine ⟨ad, e, fun j p hj => ?_⟩
  obtain ⟨A', c', b1, b2, b3⟩ := h3 j p hj
  obtain ⟨cs, k1, k2, k3⟩ := hc j _ b1
  exact ⟨cs, k1, ⟨A', c', k2, b2, Kd.C_below b3 hb⟩, k3⟩
def clone_rows.f (l0 : List (List Int)) : Option (List (List Int)) := if l0.length < 1000000000 then some l0 else none
set_option maxRecDepth 100000 in
set_option maxHeartbeats 4000000 in
theorem clone_rows.calls (A0 : Option Addr) (c0 : Nat) (l0 r : List (List Int)) (w0 w : World) (hr0 : Kd.C (Kd.slice 3 (Kd.int .i64)) w0 A0 l0.length l0) (hB : Below w0.heap.size w0 w) (h : clone_rows.f l0 = some r) :
    Calls Try.prog 35 #[.slice A0 l0.length c0] w fun e w' => ∃ v0_ : Value, e = .returned v0_ ∧ OWN w0 w' v0_ r ∧ Below w.heap.size w w' := by
  unfold clone_rows.f at h
  split at h
  case isFalse => cases h
  rename_i hlen
  cases h
  obtain ⟨hs, hT, hCs⟩ := Told.of_C hr0
  have hl := hT.1
  rw [← hl] at hlen hCs ⊢
  have HT := Aside0.mk hT
  have hr1 := Kd.C_below hCs hB
  have hsz := hB.size
  clear hT hl hCs hr0 hB
  cases A0 with
  | none =>
    have hl : hs = [] := by
      cases hs with
      | nil => rfl
      | cons x l =>
        obtain ⟨_, _, h3⟩ := hr1
        obtain ⟨ad, h4, _⟩ := h3 (by simp)
        cases h4
    subst hl
    have hnil := fun w => Lib.run_eql_slice_nil (P := Try.prog) w 41 23 none 0 c0 0 0 Try.underlying41
    go_enter Try.func35, Try.ntmps35
    go_wp2
    go_ret
    exact ⟨_, rfl, ⟨[], Kd.R_nil _ _ _ _ _, HT.out⟩, Below.refl _ _⟩
  | some ad =>
    have hnil := fun w => Lib.run_eql_slice_nil (P := Try.prog) w 41 23 (some ad) hs.length c0 0 0 Try.underlying41
    simp only [Option.isNone_some] at hnil
    have HR := Aside0.mk hr1
    have HL := Aside0.mk hlen
    have HSZ := Aside0.mk hsz
    clear hr1 hlen hsz
    go_enter Try.func35, Try.ntmps35
    go_wp2_with (first | ((with_reducible refine gate_dst (N := 5) rfl ?_); refine Kd.R_lit kS _ 23 ?hg (N := 5) ?hd (xs := ([] : List (HD))) (inner := []) (ok := fun _ => True) (okp := fun _ => True) ?hr ?hp (fun _ hk => hk) trivial (Below.refl _ _) (Nat.le_refl _) (by simp) ?_; (case hd => rfl); (case hg => rfl); (case hr => first | (go_simp; done) | (go_simp; rfl)); (case hp => exact (Reps.none _ _)); intro v1 w1 ho1 hb1 hg_ hnew_; clear hg_ hnew_; have HB := Aside0.mk hb1; have HO := Aside0.mk ho1; clear hb1 ho1) | ((with_reducible refine gate_builtin (b := .append) (xs := #[.tmp 5, .tmp 6]) rfl ?_); at_builtin; refine Kd.R_append_rows kS (w0 := w) w.heap.size rfl (.tmp 5) (.tmp 6) 41 23 (.slice none 0 0) 24 rfl Try.underlying41 infoSl rfl (by decide) (by omega) v1 [] hs _ _ _ (fun k_ => True) (fun _ => False) rfl rfl ?aO ?aR (fun _ _ h => h) (fun _ h => h.elim) ?aF ?aB ?aS ?aL ?_; (case aR => exact Kd.C_below HR.out HB.out); (case aB => exact HB.out); (case aF => exact (fun _ _ => trivial)); (case aO => exact Kd.R_mono HO.out (fun _ _ => trivial)); (case aS => exact HB.out.size); (case aL => have := HL.out; simp; omega); intro v2 w2 ho hb hg hat; simp only [List.nil_append] at ho; have HO2 := Aside0.mk ho; have HB2 := Aside0.mk hb; clear ho hb hg hat))
    go_ret
    exact ⟨_, rfl, ⟨hs, Kd.R_lower HO2.out HSZ.out, HT.out⟩, HB2.out⟩
def revAt (rows : List HD) (i t : Nat) : Option HD := if t < i ∨ rows.length - i ≤ t then rows.reverse[t]? else rows[t]?
theorem rdOf_at {l : List HD} {i : Nat} (h : i < l.length) : rdOf ((none, 0, 0) : HD) l (i : Int) = l[i] := by simp [rdOf, List.getD, List.getElem?_eq_getElem h]
theorem rev_step {ok : Nat → Prop} {rk : List HD} {g n cap e b : Nat} {wr : World} (hr : kS.R e wr b ok (.slice (some ⟨g, 0, none⟩) n cap) rk) (i jn : Nat) (u x : HD) :
    kS.R e (((wr.setCell ⟨g, i, none⟩ (encS x)).setCell ⟨g, jn, none⟩ (encS u)).drew) b ok (.slice (some ⟨g, 0, none⟩) n cap) ((rk.set i x).set jn u) ∧ wr.grownBy (((wr.setCell ⟨g, i, none⟩ (encS x)).setCell ⟨g, jn, none⟩ (encS u)).drew) (some g) := by
  obtain ⟨h1, g1⟩ := Kd.R_putg hr (i : Int) x
  obtain ⟨h2, g2⟩ := Kd.R_putg h1 (jn : Int) u
  have gd : ∀ w : World, w.grownBy w.drew (some g) := fun w => ⟨rfl, rfl, rfl, Nat.le_refl _, fun _ _ _ => rfl⟩
  simp only [Int.toNat_natCast] at h2 g1 g2
  exact ⟨Kd.R_drew h2, (g1.trans g2).trans (gd _)⟩
set_option maxRecDepth 100000 in
set_option maxHeartbeats 4000000 in
theorem rev_raw {ok : Nat → Prop} (rows : List HD) (g cap : Nat) (w : World) (b : Nat) (hR : kS.R 23 w b ok (.slice (some ⟨g, 0, none⟩) rows.length cap) rows) (hsz : rows.length ≤ 9223372036854775807) :
    Calls Try.prog 36 #[.slice (some ⟨g, 0, none⟩) rows.length cap] w fun e w' => e = .returned (.tuple #[]) ∧ kS.R 23 w' b ok (.slice (some ⟨g, 0, none⟩) rows.length cap) rows.reverse ∧ w.grownBy w' (some g) := by
  have hw1 : wrap64 ((rows.length : Int) - 1) = (rows.length : Int) - 1 := by unfold wrap64; omega
  go_enter Try.func36, Try.ntmps36
  go_wp2
  go_loopg [2, 3] rows.length (fun k s2 s3 wr => ∃ (i : Nat) (rk : List HD), s2 = .int .i64 (i : Int) ∧ s3 = .int .i64 ((rows.length : Int) - 1 - i) ∧ 2 * i ≤ rows.length ∧ rows.length - i ≤ k ∧ rk.length = rows.length ∧ (∀ t, rk[t]? = revAt rows i t) ∧
    Aside0 (kS.R 23 wr b ok (.slice (some ⟨g, 0, none⟩) rows.length cap) rk) ∧ Aside0 (w.grownBy wr (some g)))
  case atStart => exact ⟨0, rows, rfl, by simp, by omega, by omega, rfl, fun t => by
    unfold revAt
    by_cases h : rows.length ≤ t
    · rw [if_pos (by omega), List.getElem?_eq_none h, List.getElem?_eq_none (by simpa using h)]
    · rw [if_neg (by omega)], ⟨hR⟩, ⟨World.grownBy.refl _ _⟩⟩
  case round =>
    obtain ⟨i, rk, rfl, rfl, h2, hk, hl, hat, hr, hg⟩ := hrel
    by_cases hlt : (i : Int) < (rows.length : Int) - 1 - i
    · have d0 : decide ((i : Int) < (rows.length : Int) - 1 - i) = true := decide_eq_true hlt
      obtain ⟨jn, hjn⟩ : ∃ jn : Nat, (rows.length : Int) - 1 - i = jn := ⟨rows.length - 1 - i, by omega⟩
      obtain ⟨ic, ifz⟩ := Kd.R_celln ((none, 0, 0) : HD) hr.out (i : Int) (by omega) (by omega)
      obtain ⟨jc, jfz⟩ := Kd.R_celln ((none, 0, 0) : HD) hr.out (jn : Int) (by omega) (by omega)
      rw [hjn] at d0 ⊢
      simp only [Int.toNat_natCast] at ic ifz jc jfz
      obtain ⟨⟨u1, u2, u3⟩, hu⟩ : ∃ u, u = rdOf ((none, 0, 0) : HD) rk (i : Int) := ⟨_, rfl⟩
      obtain ⟨⟨x1, x2, x3⟩, hx⟩ : ∃ x, x = rdOf ((none, 0, 0) : HD) rk (jn : Int) := ⟨_, rfl⟩
      rw [← hu] at ic
      rw [← hx] at jc
      have HU := Aside0.mk hu
      have HX := Aside0.mk hx
      clear hu hx
      dsimp only [encS] at ic jc
      have i0 : decide (0 ≤ (i : Int)) = true := decide_eq_true (by omega)
      have i1 : decide ((i : Int) < (rows.length : Int)) = true := decide_eq_true (by omega)
      have j0 : decide (0 ≤ (jn : Int)) = true := decide_eq_true (by omega)
      have j1 : decide ((jn : Int) < (rows.length : Int)) = true := decide_eq_true (by omega)
      have ni : i < rows.length := by omega
      have nj : jn < rows.length := by omega
      go_wp2_with fail
      go_region_o
      go_wp2
      go_roundg (rows.length - (i + 1))
      case measure => omega
      case rel =>
        have eu : rk[i]? = some (u1, u2, u3) := by rw [HU.out, rdOf_at (by omega), List.getElem?_eq_getElem (by omega)]
        have ex : rk[jn]? = some (x1, x2, x3) := by rw [HX.out, rdOf_at (by omega), List.getElem?_eq_getElem (by omega)]
        obtain ⟨hR2, hG2⟩ := rev_step hr.out i jn (u1, u2, u3) (x1, x2, x3)
        refine ⟨i + 1, (rk.set i (x1, x2, x3)).set jn (u1, u2, u3), by simp, by congr 1; omega, by omega, by omega, by simp [hl], fun t => ?_, ⟨hR2⟩, ⟨hg.out.trans hG2⟩⟩
        have ha := hat t
        have hi' := hat i
        have hj' := hat jn
        rw [eu] at hi'
        rw [ex] at hj'
        unfold revAt at ha hi' hj' ⊢
        rw [if_neg (by omega)] at hi' hj'
        by_cases h1 : t = jn
        · subst h1
          rw [List.getElem?_set_self (by simp; omega), if_pos (by omega), List.getElem?_reverse (by omega), hi']
          congr 1
          omega
        · rw [List.getElem?_set_ne (by omega)]
          by_cases h3 : t = i
          · subst h3
            rw [List.getElem?_set_self (by omega), if_pos (by omega), List.getElem?_reverse (by omega), hj']
            congr 1
            omega
          · rw [List.getElem?_set_ne (by omega), ha]
            by_cases h4 : t < i ∨ rows.length - i ≤ t
            · rw [if_pos h4, if_pos (by omega)]
            · rw [if_neg h4, if_neg (by omega)]
    · have d0 : decide ((i : Int) < (rows.length : Int) - 1 - i) = false := decide_eq_false hlt
      go_wp2
      go_end0
      have e : rk = rows.reverse := by
        apply List.ext_getElem?
        intro t
        rw [hat t]
        unfold revAt
        by_cases h : t < i ∨ rows.length - i ≤ t
        · rw [if_pos h]
        · rw [if_neg h, List.getElem?_reverse (by omega)]
          congr 1
          omega
      rw [← e]
      exact ⟨rfl, hr.out, hg.out⟩
set_option maxRecDepth 100000 in
set_option maxHeartbeats 4000000 in
theorem rev_nil (cap : Nat) (w : World) : Calls Try.prog 36 #[.slice none 0 cap] w fun e w' => e = .returned (.tuple #[]) ∧ w' = w := by
  have hw1 : wrap64 (0 - 1) = -1 := by unfold wrap64; omega
  go_enter Try.func36, Try.ntmps36
  go_wp2
  go_loopg [2, 3] 0 (fun k s2 s3 wr => s2 = .int .i64 0 ∧ s3 = .int .i64 (-1) ∧ wr = w)
  case atStart => exact ⟨rfl, by simp, rfl⟩
  case round =>
    obtain ⟨rfl, rfl, rfl⟩ := hrel
    go_wp2
    go_end0
    exact ⟨rfl, rfl⟩
def rev_rows.f (l0 : List (List Int)) : Option Unit := some ()
theorem rev_rows.calls {w0 w : World} {v : Value} {l : List (List Int)} (h : OWN w0 w v l) :
    Calls Try.prog 36 #[v] w fun e w' => e = .returned (.tuple #[]) ∧ OWN w0 w' v l.reverse ∧ w.grownBy w' v.ownBlock := by
  obtain ⟨hs, hR, hT⟩ := h
  obtain ⟨A, c, rfl, hl, hC⟩ := Kd.R_reads hR
  cases A with
  | none =>
    have h0 : hs = [] := by
      cases hs with
      | nil => rfl
      | cons x l =>
        obtain ⟨_, _, h3⟩ := hC
        obtain ⟨ad, h4, _⟩ := h3 (by simp)
        cases h4
    subst h0
    have hl0 : l = [] := List.eq_nil_of_length_eq_zero hT.1.symm
    subst hl0
    refine (rev_nil c w).mono ?_
    rintro e w' ⟨rfl, rfl⟩
    exact ⟨rfl, ⟨[], hR, hT⟩, World.grownBy.refl _ _⟩
  | some ad =>
    obtain ⟨g, rfl⟩ := Kd.R_head hR
    refine (rev_raw hs g c w w0.heap.size hR hC.2.1).mono ?_
    rintro e w' ⟨rfl, hR2, hg⟩
    exact ⟨rfl, ⟨hs.reverse, hR2, hT.rev⟩, hg⟩
theorem OWN.drewN {w W : World} {v : Value} {l : List (List Int)} (h : OWN w W v l) (m : Nat) : OWN w (W.drewN m) v l := by
  obtain ⟨hs, h1, h2⟩ := h
  exact ⟨hs, Kd.R_drewN h1 m, h2⟩
theorem OWN.drew {w W : World} {v : Value} {l : List (List Int)} (h : OWN w W v l) : OWN w W.drew v l := by
  obtain ⟨hs, h1, h2⟩ := h
  exact ⟨hs, Kd.R_drew h1, h2⟩
theorem OWN.alloc {w W : World} {v : Value} {l : List (List Int)} (h : OWN w W v l) (o : Obj) : OWN w (W.alloc o) v l := by
  obtain ⟨hs, h1, h2⟩ := h
  exact ⟨hs, Kd.R_alloc h1 o, h2⟩
/-- A row of numbers of the call's own beside a row of slices that is written. -/
theorem OWN.beside {w W W1 : World} {v u : Value} {l : List (List Int)} {base : Nat} {ok : Nat → Prop} {xs : List Int} (h : OWN w W v l) (hr : Kd.R (Kd.int .i64) 3 W base ok u xs) (hg : W.grownBy W1 v.ownBlock) : Kd.R (Kd.int .i64) 3 W1 base ok u xs := by
  obtain ⟨hs, hR, _⟩ := h
  refine Kd.R_mono (Kd.R_grown (Kd.R_bound hr) hg (fun k hk e => ?_)) (fun _ hk => hk.1)
  obtain ⟨_, _, _, q, hq, cells, hc⟩ := hk
  obtain ⟨cells', hc'⟩ := Kd.R_typed hR k e.symm
  have hq : q = 3 := by simpa [Kd.int, Kd.scalar] using hq
  subst hq
  rw [hc] at hc'
  injection hc' with hc'
  injection hc' with _ hc' _
  exact absurd hc' (by decide)
theorem OWN.under {w W W1 : World} {v : Value} {l : List (List Int)} (h : OWN w W v l) (hb : Below w.heap.size w W) (hg : W.grownBy W1 v.ownBlock) : Below w.heap.size w W1 := by
  obtain ⟨hs, hR, _⟩ := h
  exact hb.grown hg hb.size (fun k e => Kd.R_base hR k e)
theorem OWN.read_n {w W : World} {A : Option Addr} {c n : Nat} {l : List (List Int)} (h : OWN w W (.slice A n c) l) (hn : n = l.length) (hb : Below w.heap.size w W) : Kd.C (Kd.slice 3 (Kd.int .i64)) W A l.length l ∧ l.length ≤ c := by
  subst hn
  obtain ⟨A', c', e, hl⟩ := h.slice
  injection e with _ _ e3
  subst e3
  exact ⟨h.read hb, hl⟩
theorem postings_Merge.calls_n (n : Nat) (k : Nat) (A0 : Option Addr) (c0 : Nat) (l0 : List (List Int)) (r : List Int) (w : World) (hn : n = l0.length) (hr0 : Kd.C (Kd.slice 3 (Kd.int .i64)) w A0 l0.length l0) (hc0 : l0.length ≤ c0) (h : postings_Merge.f k l0 = some r) :
    Calls Try.prog 31 #[.slice A0 n c0] w fun e w' => ∃ v0_ : Value, e = .returned v0_ ∧ Kd.R (Kd.int .i64) 3 w' w.heap.size (fun _ => True) v0_ r ∧ Below w.heap.size w w' := by
  subst hn
  exact postings_Merge.calls k A0 c0 l0 r w hr0 hc0 h
end Go.Proofs.Ytdmdhpnlalekfaa.Hand
