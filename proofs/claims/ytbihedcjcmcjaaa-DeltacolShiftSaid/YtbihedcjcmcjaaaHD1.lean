/- Several texts of this session in one. No condition beyond those in the statements. -/
import Derived.Test.YtbihedcjcmcjaaaAA
import Derived.Test.YtbihedcjcmcjaaaWMore
import Derived.RangeFuncBox
import Derived.WalkKit
import Derived.StillTailTactics
import Derived.Deep.QuietTactic
import Derived.Deep.RegionHeld3
import Derived.BigQuiet
import Derived.Test.YtbihedcjcmcjaaaCA
section
namespace Go.Proofs.Ytbihedcjcmcjaaa.Hand
open Go.RowKit Go.Shelf Go.Proofs.YtbihedcjcmcjaaaW.PrintWords Go.Proofs.YtbihedcjcmcjaaaW.PrintMore Go.Proofs.Ytbihedcjcmcjaaa.A
set_option linter.unusedVariables false
set_option linter.unusedSimpArgs false
abbrev RDR (W : World) (g : Nat) (s : ByteArray) (i e : Int) : Prop := W.heap[g]? = some (.cells #[.string s, .int .i64 i, .int .i64 e] 45 (0, 0))
def KeepOne (g : Nat) (w w' : World) : Prop := w.heap.size ≤ w'.heap.size ∧ ∀ k, k < w.heap.size → k ≠ g → w'.heap[k]? = w.heap[k]?
theorem KeepOne.trans {g : Nat} {a b c : World} (h : KeepOne g a b) (k : KeepOne g b c) : KeepOne g a c := ⟨Nat.le_trans h.1 k.1, fun i hi hg => (k.2 i (by have := h.1; omega) hg).trans (h.2 i hi hg)⟩
theorem KeepOne.set {g : Nat} {a b : World} (h : KeepOne g a b) (i : Nat) (v : Value) : KeepOne g a (b.setCell ⟨g, i, none⟩ v) := ⟨by simpa using h.1, fun k hk hg => (Below.heap_setCell b ⟨g, i, none⟩ v k hg).trans (h.2 k hk hg)⟩
theorem KeepOne.of_below {g : Nat} {a b : World} (h : Below a.heap.size a b) : KeepOne g a b := ⟨h.size, fun k hk _ => h.block k hk⟩
def numR (R : ByteArray → Option (Int × Int × Int)) (s : ByteArray) (i e : Int) : Option (Int × Int × Int) :=
  if e = 0 then (if 0 ≤ i then (if i ≤ (s.size : Int) then ((R (s.extract i.toNat s.size)).bind fun p => some (p.1, wrap64 (i + p.2.1), p.2.2)) else none) else none) else some (0, i, e)
set_option maxRecDepth 100000 in
set_option maxHeartbeats 2000000 in
theorem number_calls (rf : Nat) (R : ByteArray → Option (Int × Int × Int)) (hR : ∀ (s : ByteArray) (r1 r2 r3 : Int) (w : World), R s = some (r1, r2, r3) → Calls Try.prog rf #[.string s] w fun e w' => e = .returned (.tuple #[.int .i64 r1, .int .i64 r2, .int .i64 r3]) ∧ Below w.heap.size w w') (erf : ∀ args w, (callFunc rf args).run Try.prog w = .ok (.enter rf args) w)
    (g : Nat) (s : ByteArray) (i e : Int) (n i' e' : Int) (w : World) (HB : Aside0 (RDR w g s i e)) (h : numR R s i e = some (n, i', e')) :
    Calls Try.prog 30 #[.pointer (some ⟨g, 0, none⟩), .func (.func rf) #[] #[]] w fun en w' => en = .returned (.int .i64 n) ∧ Aside0 (RDR w' g s i' e') ∧ Aside0 (Below g w w') ∧ Aside0 (KeepOne g w w') := by
  have c0 : w.cell? ⟨g, 0, none⟩ = some (.string s) := (blk_cell HB.out 0).trans rfl
  have c1 : w.cell? ⟨g, 1, none⟩ = some (.int .i64 i) := (blk_cell HB.out 1).trans rfl
  have c2 : w.cell? ⟨g, 2, none⟩ = some (.int .i64 e) := (blk_cell HB.out 2).trans rfl
  have lg := blk_lt HB.out
  unfold numR at h
  by_cases he : e = 0
  · subst he
    rw [if_pos rfl] at h
    split at h
    case isFalse => cases h
    rename_i h0
    split at h
    case isFalse => cases h
    rename_i h1
    obtain ⟨p, hp, h2⟩ := Option.bind_eq_some_iff.1 h
    cases h2
    have HP := Aside0.mk hp
    clear h hp
    go_enter Try.func30, Try.ntmps30
    go_wp2_with fail
    go_region_held3 (fun w' => w'.cell? ⟨g, 0, none⟩ = some (.string s) ∧ w'.cell? ⟨g, 1, none⟩ = some (.int .i64 i))
      (first | go_keep | exact ⟨(hb.cell (World.block_lt_of_cell? _ _ c0)).trans c0, (hb.cell (World.block_lt_of_cell? _ _ c1)).trans c1⟩)
      ((refine (hR _ p.1 p.2.1 p.2.2 _ HP.out).mono ?_; rintro e' W ⟨rfl, hb⟩))
    have hb' : Below w.heap.size w W := (below_drew1 (Below.refl w.heap.size w)).trans hb
    clear hb c0 c1 c2
    have G := blk_below HB.out hb'
    have c1 : W.cell? ⟨g, 1, none⟩ = some (.int .i64 i) := (blk_cell G 1).trans rfl
    have c2 : W.cell? ⟨g, 2, none⟩ = some (.int .i64 0) := (blk_cell G 2).trans rfl
    have z1 := blk_frozen G 1
    have z2 := blk_frozen G 2
    have HG := Aside0.mk G
    have HBB := Aside0.mk hb'
    clear G hb'
    go_wp2
    go_ret
    exact ⟨rfl, ⟨blk_put (blk_put HG.out 1 _ rfl) 2 _ rfl⟩, ⟨((HBB.out.mono (Nat.le_of_lt lg)).setCell (Nat.le_refl _) _).setCell (Nat.le_refl _) _⟩, ⟨((KeepOne.of_below HBB.out).set 1 _).set 2 _⟩⟩
  · rw [if_neg he] at h
    cases h
    have te : (e != 0) = true := bne_iff_ne.mpr he
    go_enter Try.func30, Try.ntmps30
    go_wp2
    go_ret
    exact ⟨rfl, HB, ⟨Below.refl _ _⟩, ⟨KeepOne.of_below (Below.refl _ _)⟩⟩
theorem number_read (g : Nat) (s : ByteArray) (i e : Int) (n i' e' : Int) (w : World) (HB : Aside0 (RDR w g s i e)) (h : numR varint_Read.f s i e = some (n, i', e')) :
    Calls Try.prog 30 #[.pointer (some ⟨g, 0, none⟩), .func (.func 23) #[] #[]] w fun en w' => en = .returned (.int .i64 n) ∧ Aside0 (RDR w' g s i' e') ∧ Aside0 (Below g w w') ∧ Aside0 (KeepOne g w w') :=
  number_calls 23 varint_Read.f (fun s r1 r2 r3 w h => varint_Read.calls s r1 r2 r3 w h) (enters_of Try.func23 (by kernel_rfl) rfl) g s i e n i' e' w HB h
theorem number_signed (g : Nat) (s : ByteArray) (i e : Int) (n i' e' : Int) (w : World) (HB : Aside0 (RDR w g s i e)) (h : numR varint_ReadSigned.f s i e = some (n, i', e')) :
    Calls Try.prog 30 #[.pointer (some ⟨g, 0, none⟩), .func (.func 31) #[] #[]] w fun en w' => en = .returned (.int .i64 n) ∧ Aside0 (RDR w' g s i' e') ∧ Aside0 (Below g w w') ∧ Aside0 (KeepOne g w w') :=
  number_calls 31 varint_ReadSigned.f (fun s r1 r2 r3 w h => varint_ReadSigned.calls s r1 r2 r3 w h) (enters_of Try.func31 (by kernel_rfl) rfl) g s i e n i' e' w HB h
theorem infoR : (Try.prog.info? 3).map (fun i => (i.zero, i.size, i.bytes)) = some (some (.int .i64 0), 1, 8) := by kernel_rfl
/-- The reader, and a row that the call has made. -/
structure RS (w W : World) (g : Nat) (s : ByteArray) (i e : Int) (v : Value) (acc : List Int) : Prop where
  box : RDR W g s i e
  below : Below g w W
  keep : KeepOne g w W
  row : Kd.R (Kd.int .i64) 3 W w.heap.size (fun k => w.heap.size ≤ k) v acc
theorem RS.num {w W W' : World} {g : Nat} {s : ByteArray} {i e i' e' : Int} {v : Value} {acc : List Int} (h : RS w W g s i e v acc) (lg : g < w.heap.size) (h1 : RDR W' g s i' e') (h2 : Below g W W') (h3 : KeepOne g W W') : RS w W' g s i' e' v acc :=
  ⟨h1, h.below.trans h2, h.keep.trans h3, Kd.R_step h.row (fun k hk hl => h3.2 k hl (by omega))⟩
theorem RS.set2 {w W : World} {g : Nat} {s : ByteArray} {i e : Int} {v : Value} {acc : List Int} (h : RS w W g s i e v acc) (lg : g < w.heap.size) (e' : Int) : RS w (W.setCell ⟨g, 2, none⟩ (.int .i64 e')) g s i e' v acc :=
  ⟨blk_put h.box 2 _ rfl, h.below.setCell (Nat.le_refl _) _, h.keep.set 2 _, Kd.R_far h.row (fun k hk => by dsimp only; omega) _⟩
theorem RS.app {w W w1 : World} {g : Nat} {s : ByteArray} {i e : Int} {v v1 : Value} {acc acc' : List Int} (h : RS w W g s i e v acc) (lg : g < w.heap.size) (hr : Kd.R (Kd.int .i64) 3 w1 w.heap.size (fun k => w.heap.size ≤ k) v1 acc') (hg : W.grownBy w1 v.ownBlock) (hb : Below w.heap.size W w1) : RS w w1 g s i e v1 acc' := by
  have ne : ∀ k, k < w.heap.size → some k ≠ v.ownBlock := fun k hk e => by have := h.row.1 k e.symm; omega
  exact ⟨blk_grown h.box hg (ne g lg), h.below.trans (hb.mono (Nat.le_of_lt lg)), ⟨Nat.le_trans h.keep.1 hb.size, fun k hk hkg => (hb.block k hk).trans (h.keep.2 k hk hkg)⟩, hr⟩
def rrunG : Nat → ByteArray → Int → Int → Int → List Int → Option (List Int × Int × Int)
  | 0, _, _, _, _, _ => none
  | d + 1, s, i, e, c, acc => if (acc.length : Int) < c then ((numR varint_ReadSigned.f s i e).bind fun p => (numR varint_Read.f s p.2.1 p.2.2).bind fun q =>
      if q.2.2 = 0 then (if q.1 = 0 then some ([], q.2.1, 12) else if wrap64 (c - (acc.length : Int)) < q.1 then some ([], q.2.1, 12) else if 0 < q.1 ∧ (acc.length : Int) + q.1 ≤ 1000000000 then rrunG d s q.2.1 0 c (acc ++ List.replicate q.1.toNat p.1) else none) else some ([], q.2.1, q.2.2)) else some (acc, i, e)
theorem RS.res {w W : World} {g : Nat} {s : ByteArray} {i e : Int} {v : Value} {acc : List Int} (h : RS w W g s i e v acc) : Aside0 (RDR W g s i e) ∧ Aside0 (Below g w W) ∧ Aside0 (KeepOne g w W) := ⟨⟨h.box⟩, ⟨h.below⟩, ⟨h.keep⟩⟩
set_option maxRecDepth 100000 in
set_option maxHeartbeats 8000000 in
theorem reader_runs (d : Nat) (g : Nat) (s : ByteArray) (i e c : Int) (r : List Int) (i' e' : Int) (w : World) (HB : Aside0 (RDR w g s i e)) (h : rrunG d s i e c [] = some (r, i', e')) :
    Calls Try.prog 32 #[.pointer (some ⟨g, 0, none⟩), .int .i64 c] w fun en w' => ∃ v, en = .returned v ∧ Aside0 (RDR w' g s i' e') ∧ Aside0 (Below g w w') ∧ Aside0 (KeepOne g w w') ∧ Kd.R (Kd.int .i64) 3 w' w.heap.size (fun k => w.heap.size ≤ k) v r := by
  have lg := blk_lt HB.out
  have H := Aside0.mk h
  have S0 : Aside0 (RS w w g s i e (.slice none 0 0) []) := ⟨⟨HB.out, Below.refl _ _, KeepOne.of_below (Below.refl _ _), Kd.R_nil _ _ _ _ _⟩⟩
  clear h HB
  go_enter Try.func32, Try.ntmps32
  go_wp2
  go_loopw [5] (fun v5 wr => ∃ (d : Nat) (i e : Int) (acc : List Int), Aside0 (rrunG d s i e c acc = some (r, i', e')) ∧ Aside0 (RS w wr g s i e v5 acc) ∧ (∃ A m, v5 = .slice A acc.length m))
    (fun v5 _ => match v5 with | .slice _ n _ => (c - (n : Int)).toNat | _ => 0)
  case atStart => exact ⟨d, i, e, [], H, S0, _, _, rfl⟩
  case round =>
    obtain ⟨d, i, e, acc, HD, S1, A, m, rfl⟩ := hrel
    clear S0 H
    have hd := HD.out
    clear HD
    cases d with
    | zero => cases hd
    | succ d =>
    rw [rrunG] at hd
    by_cases cl : (acc.length : Int) < c
    · rw [if_pos cl] at hd
      have tl : decide ((acc.length : Int) < c) = true := decide_eq_true cl
      obtain ⟨⟨p1, p2, p3⟩, hp, hd1⟩ := Option.bind_eq_some_iff.1 hd
      clear hd
      dsimp only at hd1
      obtain ⟨⟨q1, q2, q3⟩, hq, hd⟩ := Option.bind_eq_some_iff.1 hd1
      clear hd1
      dsimp only at hd
      have HP := Aside0.mk hp
      have HQ := Aside0.mk hq
      have HDD := Aside0.mk hd
      clear hp hq hd
      go_wp2_with fail
      refine (number_signed g s i e p1 p2 p3 _ ⟨S1.out.box⟩ HP.out).mono ?_
      rintro en W2 ⟨rfl, n1, n2, n3⟩
      have S2 := Aside0.mk (S1.out.num lg n1.out n2.out n3.out)
      clear n1 n2 n3 S1 HP
      go_wp2_with fail
      refine (number_read g s p2 p3 q1 q2 q3 _ ⟨S2.out.box⟩ HQ.out).mono ?_
      rintro en W3 ⟨rfl, n1, n2, n3⟩
      have S3 := Aside0.mk (S2.out.num lg n1.out n2.out n3.out)
      clear n1 n2 n3 S2 HQ W2
      have x2 : W3.cell? ⟨g, 2, none⟩ = some (.int .i64 q3) := (blk_cell S3.out.box 2).trans rfl
      have y2 := blk_frozen S3.out.box 2
      have hd := HDD.out
      clear HDD
      by_cases cq : q3 = 0
      · subst cq
        rw [if_pos rfl] at hd
        by_cases c1 : q1 = 0
        · subst c1
          rw [if_pos rfl] at hd
          cases hd
          go_wp2
          go_ret
          obtain ⟨u1, u2, u3⟩ := (S3.out.set2 lg 12).res
          exact ⟨_, rfl, u1, u2, u3, Kd.R_nil _ _ _ _ _⟩
        · rw [if_neg c1] at hd
          have t1 : (q1 == 0) = false := beq_eq_false_iff_ne.mpr c1
          by_cases c2 : wrap64 (c - (acc.length : Int)) < q1
          · rw [if_pos c2] at hd
            have t2 : decide (wrap64 (c - (acc.length : Int)) < q1) = true := decide_eq_true c2
            cases hd
            go_wp2
            go_ret
            obtain ⟨u1, u2, u3⟩ := (S3.out.set2 lg 12).res
            exact ⟨_, rfl, u1, u2, u3, Kd.R_nil _ _ _ _ _⟩
          · rw [if_neg c2] at hd
            have t2 : decide (wrap64 (c - (acc.length : Int)) < q1) = false := decide_eq_false c2
            split at hd
            case isFalse => cases hd
            rename_i hb
            obtain ⟨hb1, hb2⟩ := hb
            have HDD := Aside0.mk hd
            clear hd
            go_wp2_with fail
            go_loopw [5, 42] (fun v5 v42 ws => ∃ (k : Nat) (A' : Option Addr) (m' : Nat), k ≤ q1.toNat ∧ v42 = .int .i64 k ∧ v5 = .slice A' (acc.length + k) m' ∧ Aside0 (RS w ws g s q2 0 (.slice A' (acc.length + k) m') (acc ++ List.replicate k p1)))
              (fun _ v42 _ => q1.toNat - (intOf v42).toNat)
            case atStart => exact ⟨0, A, m, Nat.zero_le _, rfl, rfl, ⟨by simpa using S3.out⟩⟩
            case round =>
              obtain ⟨k, A', m', hk, rfl, rfl, S4⟩ := hrel
              clear S3 x2 y2
              by_cases ck : (k : Int) < q1
              · have tk : decide ((k : Int) < q1) = true := decide_eq_true ck
                have hLen : ((acc ++ List.replicate k p1).length + 1) * 8 ≤ 140737488355328 := by
                  simp only [List.length_append, List.length_replicate]; omega
                have hApp : acc ++ List.replicate k p1 ++ [p1] = acc ++ List.replicate (k + 1) p1 := by rw [List.append_assoc, List.replicate_succ']
                have hLen2 : (acc ++ List.replicate (k + 1) p1).length = acc.length + (k + 1) := by simp
                go_wp2_with ((with_reducible refine gate_builtin (b := .append) (xs := #[.tmp 44, .tmp 46]) rfl ?_); at_builtin; refine Kd.R_append (Kd.int .i64) (w0 := wr) w.heap.size rfl (.tmp 44) (.tmp 46) 24 3 (.int .i64 0) 8 rfl Try.underlying24 infoR rfl (by decide) (by omega) _ (acc ++ List.replicate k p1) p1 [.int .i64 p1] (fun k => w.heap.size ≤ k) (fun _ => False) rfl rfl ?aP (fun _ hk => hk.elim) ?aF ?aO ?aB ?aS ?aL ?_; (case aP => exact rfl); (case aB => exact Below.refl _ _); (case aF => exact (fun k hk => Nat.le_trans S4.out.keep.1 hk)); (case aO => exact S4.out.row); (case aS => exact S4.out.keep.1); (case aL => exact hLen); intro v6 W6 hr6 hb6 hg6 hat6; rw [hApp] at hr6; have S6 := S4.out.app lg hr6 hg6 hb6; obtain ⟨A6, m6, hv6, _, _⟩ := Kd.R_reads hr6; rw [hLen2] at hv6; subst hv6; have S6' := Aside0.mk S6; clear S6 hr6 hb6 hg6 hat6)
                go_roundw
                case rel => exact ⟨k + 1, A6, m6, by omega, by go_num, rfl, S6'⟩
                case measure => simp [intOf]; omega
              · have tk : decide ((k : Int) < q1) = false := decide_eq_false ck
                have hkq : k = q1.toNat := by omega
                subst hkq
                go_wp2
                go_roundw
                case rel => exact ⟨d, q2, 0, _, HDD, S4, A', m', by simp⟩
                case measure =>
                  show (c - ((acc.length + q1.toNat : Nat) : Int)).toNat < (c - ((acc.length : Nat) : Int)).toNat
                  omega
      · rw [if_neg cq] at hd
        have t3 : (q3 != 0) = true := bne_iff_ne.mpr cq
        have t4 : (q3 == 0) = false := beq_eq_false_iff_ne.mpr cq
        cases hd
        go_wp2
        go_ret
        obtain ⟨u1, u2, u3⟩ := S3.out.res
        exact ⟨_, rfl, u1, u2, u3, Kd.R_nil _ _ _ _ _⟩
    · rw [if_neg cl] at hd
      have tl : decide ((acc.length : Int) < c) = false := decide_eq_false cl
      cases hd
      go_wp2
      go_ret
      obtain ⟨u1, u2, u3⟩ := S1.out.res
      exact ⟨_, rfl, u1, u2, u3, S1.out.row⟩
end Go.Proofs.Ytbihedcjcmcjaaa.Hand
end
section
namespace Go.Proofs.Ytbihedcjcmcjaaa.Hand
open Go.RowKit Go.Shelf Go.Proofs.YtbihedcjcmcjaaaW.PrintWords Go.Proofs.YtbihedcjcmcjaaaW.PrintMore Go.Proofs.Ytbihedcjcmcjaaa.A
set_option linter.unusedVariables false
set_option linter.unusedSimpArgs false
def timesG (d : Nat) (s : ByteArray) (i e c : Int) : Option (List Int × Int × Int) :=
  if c = 0 then some ([], i, e) else (numR varint_ReadSigned.f s i e).bind fun p => if c = 1 then some ([p.1], p.2.1, p.2.2) else (numR varint_ReadSigned.f s p.2.1 p.2.2).bind fun q => (rrunG d s q.2.1 q.2.2 (wrap64 (c - 2)) []).bind fun o => (deltacol_sums.f d q.1 o.1).bind fun t => (deltacol_sums.f d p.1 t).bind fun u => some (u, o.2.1, o.2.2)
def valuesG (d : Nat) (s : ByteArray) (i e c : Int) : Option (List Int × Int × Int) :=
  if c = 0 then some ([], i, e) else (numR varint_ReadSigned.f s i e).bind fun p => (rrunG d s p.2.1 p.2.2 (wrap64 (c - 1)) []).bind fun o => (deltacol_sums.f d p.1 o.1).bind fun u => some (u, o.2.1, o.2.2)
theorem R_new (w : World) (x : Int) : Kd.R (Kd.int .i64) 3 (w.alloc (.cells #[.int .i64 x] 3)) w.heap.size (fun k => w.heap.size ≤ k) (.slice (some ⟨w.heap.size, 0, none⟩) 1 1) [x] := by
  have h : (w.alloc (.cells #[.int .i64 x] 3)).ownsRow w.heap.size 3 1 (.slice (some ⟨w.heap.size, 0, none⟩) 1 1) 1 ([x].map (Value.int .i64)) :=
    ⟨by simp, .inr ⟨w.heap.size, 1, #[.int .i64 x], rfl, Nat.le_refl _, World.alloc_heap_new w _, by simp, by simp [maxLen], by simp, by simp⟩⟩
  exact Kd.R_of_own h (fun k hk => by simp [Value.ownBlock] at hk; omega)
set_option maxRecDepth 100000 in
set_option maxHeartbeats 8000000 in
theorem reader_values (d : Nat) (g : Nat) (s : ByteArray) (i e c : Int) (r : List Int) (i' e' : Int) (w : World) (HB : Aside0 (RDR w g s i e)) (h : valuesG d s i e c = some (r, i', e')) :
    Calls Try.prog 24 #[.pointer (some ⟨g, 0, none⟩), .int .i64 c] w fun en w' => ∃ v, en = .returned v ∧ Aside0 (RDR w' g s i' e') ∧ Aside0 (Below g w w') ∧ Aside0 (KeepOne g w w') ∧ Kd.R (Kd.int .i64) 3 w' w.heap.size (fun k => w.heap.size ≤ k) v r := by
  have lg := blk_lt HB.out
  unfold valuesG at h
  by_cases c0 : c = 0
  · subst c0
    rw [if_pos rfl] at h
    cases h
    go_enter Try.func24, Try.ntmps24
    go_wp2
    go_ret
    exact ⟨_, rfl, HB, ⟨Below.refl _ _⟩, ⟨KeepOne.of_below (Below.refl _ _)⟩, Kd.R_nil _ _ _ _ _⟩
  · rw [if_neg c0] at h
    have t0 : (c == 0) = false := beq_eq_false_iff_ne.mpr c0
    obtain ⟨⟨p1, p2, p3⟩, hp, h1⟩ := Option.bind_eq_some_iff.1 h
    clear h
    dsimp only at h1
    obtain ⟨⟨o1, o2, o3⟩, ho, h2⟩ := Option.bind_eq_some_iff.1 h1
    clear h1
    dsimp only at h2
    obtain ⟨u, hu, h3⟩ := Option.bind_eq_some_iff.1 h2
    clear h2
    cases h3
    have HP := Aside0.mk hp
    have HO := Aside0.mk ho
    have HU := Aside0.mk hu
    clear hp ho hu
    go_enter Try.func24, Try.ntmps24
    go_wp2_with fail
    refine (number_signed g s i e p1 p2 p3 _ HB HP.out).mono ?_
    rintro en W1 ⟨rfl, b1, l1, k1⟩
    have lg1 := blk_lt b1.out
    go_wp2_with fail
    refine (reader_runs d g s p2 p3 _ o1 i' e' _ b1 HO.out).mono ?_
    rintro en W2 ⟨v2, rfl, b2, l2, k2, hr2⟩
    obtain ⟨A2, m2, rfl, hm2, hc2⟩ := Kd.R_reads hr2
    have HC2 := Aside0.mk hc2
    clear hc2 hr2
    go_wp2_with fail
    refine (deltacol_sums.calls d p1 A2 m2 o1 r _ HC2.out hm2 HU.out).mono ?_
    rintro en W3 ⟨v3, rfl, hr3, hb3⟩
    have HR3 := Aside0.mk hr3
    have HB3 := Aside0.mk hb3
    clear hr3 hb3
    go_wp2
    go_ret
    have s2 := k2.out.1
    have s1 := k1.out.1
    exact ⟨_, rfl, ⟨blk_below b2.out HB3.out⟩, ⟨(l1.out.trans l2.out).trans (HB3.out.mono (by omega))⟩, ⟨(k1.out.trans k2.out).trans (KeepOne.of_below HB3.out)⟩, Kd.R_mono (Kd.R_lower (Kd.R_bound HR3.out) (by omega)) (fun k hk => by have := hk.2.1; omega)⟩
set_option maxRecDepth 100000 in
set_option maxHeartbeats 8000000 in
theorem reader_times (d : Nat) (g : Nat) (s : ByteArray) (i e c : Int) (r : List Int) (i' e' : Int) (w : World) (HB : Aside0 (RDR w g s i e)) (h : timesG d s i e c = some (r, i', e')) :
    Calls Try.prog 22 #[.pointer (some ⟨g, 0, none⟩), .int .i64 c] w fun en w' => ∃ v, en = .returned v ∧ Aside0 (RDR w' g s i' e') ∧ Aside0 (Below g w w') ∧ Aside0 (KeepOne g w w') ∧ Kd.R (Kd.int .i64) 3 w' w.heap.size (fun k => w.heap.size ≤ k) v r := by
  have lg := blk_lt HB.out
  unfold timesG at h
  by_cases c0 : c = 0
  · subst c0
    rw [if_pos rfl] at h
    cases h
    go_enter Try.func22, Try.ntmps22
    go_wp2
    go_ret
    exact ⟨_, rfl, HB, ⟨Below.refl _ _⟩, ⟨KeepOne.of_below (Below.refl _ _)⟩, Kd.R_nil _ _ _ _ _⟩
  · rw [if_neg c0] at h
    have t0 : (c == 0) = false := beq_eq_false_iff_ne.mpr c0
    obtain ⟨⟨p1, p2, p3⟩, hp, h1⟩ := Option.bind_eq_some_iff.1 h
    clear h
    dsimp only at h1
    have HP := Aside0.mk hp
    clear hp
    go_enter Try.func22, Try.ntmps22
    go_wp2_with fail
    refine (number_signed g s i e p1 p2 p3 _ HB HP.out).mono ?_
    rintro en W1 ⟨rfl, b1, l1, k1⟩
    have lg1 := blk_lt b1.out
    by_cases c1 : c = 1
    · subst c1
      rw [if_pos rfl] at h1
      cases h1
      go_wp2
      go_ret
      have s1 := k1.out.1
      exact ⟨_, rfl, ⟨blk_alloc b1.out _⟩, ⟨l1.out.alloc (by have := l1.out.size; omega) _⟩, ⟨k1.out.trans (KeepOne.of_below ((Below.refl _ _).alloc (Nat.le_refl _) _))⟩, Kd.R_mono (Kd.R_lower (R_new _ _) s1) (fun k hk => by omega)⟩
    · rw [if_neg c1] at h1
      have t1 : (c == 1) = false := beq_eq_false_iff_ne.mpr c1
      obtain ⟨⟨q1, q2, q3⟩, hq, h4⟩ := Option.bind_eq_some_iff.1 h1
      clear h1
      dsimp only at h4
      obtain ⟨⟨o1, o2, o3⟩, ho, h2⟩ := Option.bind_eq_some_iff.1 h4
      clear h4
      dsimp only at h2
      obtain ⟨t, ht, h3⟩ := Option.bind_eq_some_iff.1 h2
      clear h2
      obtain ⟨u, hu, h5⟩ := Option.bind_eq_some_iff.1 h3
      clear h3
      cases h5
      have HQ := Aside0.mk hq
      have HO := Aside0.mk ho
      have HT := Aside0.mk ht
      have HU := Aside0.mk hu
      clear hq ho ht hu
      go_wp2_with fail
      refine (number_signed g s p2 p3 q1 q2 q3 _ b1 HQ.out).mono ?_
      rintro en W2 ⟨rfl, b2, l2, k2⟩
      go_wp2_with fail
      refine (reader_runs d g s q2 q3 _ o1 i' e' _ b2 HO.out).mono ?_
      rintro en W3 ⟨v3, rfl, b3, l3, k3, hr3⟩
      obtain ⟨A3, m3, rfl, hm3, hc3⟩ := Kd.R_reads hr3
      have HC3 := Aside0.mk hc3
      clear hc3 hr3
      go_wp2_with fail
      refine (deltacol_sums.calls d q1 A3 m3 o1 t _ HC3.out hm3 HT.out).mono ?_
      rintro en W4 ⟨v4, rfl, hr4, hb4⟩
      obtain ⟨A4, m4, rfl, hm4, hc4⟩ := Kd.R_reads hr4
      have HC4 := Aside0.mk hc4
      have HB4 := Aside0.mk hb4
      clear hc4 hr4 hb4
      go_wp2_with fail
      refine (deltacol_sums.calls d p1 A4 m4 t r _ HC4.out hm4 HU.out).mono ?_
      rintro en W5 ⟨v5, rfl, hr5, hb5⟩
      have HR5 := Aside0.mk hr5
      have HB5 := Aside0.mk hb5
      clear hr5 hb5
      go_wp2
      go_ret
      have s1 := k1.out.1
      have s2 := k2.out.1
      have s3 := k3.out.1
      have s4 := HB4.out.size
      exact ⟨_, rfl, ⟨blk_below (blk_below b3.out HB4.out) HB5.out⟩, ⟨(((l1.out.trans l2.out).trans l3.out).trans (HB4.out.mono (by omega))).trans (HB5.out.mono (by omega))⟩,
        ⟨(((k1.out.trans k2.out).trans k3.out).trans (KeepOne.of_below HB4.out)).trans (KeepOne.of_below HB5.out)⟩, Kd.R_mono (Kd.R_lower (Kd.R_bound HR5.out) (by omega)) (fun k hk => by have := hk.2.1; omega)⟩
end Go.Proofs.Ytbihedcjcmcjaaa.Hand
end
section
namespace Go.Proofs.Ytbihedcjcmcjaaa.Hand
open Go.RowKit Go.Shelf Go.Proofs.YtbihedcjcmcjaaaW.PrintWords Go.Proofs.YtbihedcjcmcjaaaW.PrintMore Go.Proofs.Ytbihedcjcmcjaaa.A Go.Proofs.Ytbihedcjcmcjaaa.C
set_option linter.unusedVariables false
set_option linter.unusedSimpArgs false
def colG (RG : ByteArray → Int → Int → Int → Option (List Int × Int × Int)) (EG : List Int → Option (ByteArray × Int)) (s : ByteArray) (i e : Int) : Option (List Int × Int) :=
  (numR varint_Read.f s i e).bind fun p => if p.1 > 20000 then some ([], 4) else (RG s p.2.1 p.2.2 p.1).bind fun o => if o.2.2 = 0 then (if o.2.1 = (s.size : Int) then ((EG o.1).bind fun q => if q.2 = 0 then (if q.1.toList = s.toList then some (o.1, 0) else some ([], 12)) else some ([], 12)) else some ([], 12)) else some ([], o.2.2)
set_option maxRecDepth 100000 in
set_option maxHeartbeats 8000000 in
theorem column_calls (rm em g : Nat) (RG : ByteArray → Int → Int → Int → Option (List Int × Int × Int)) (EG : List Int → Option (ByteArray × Int))
    (hR : ∀ (s : ByteArray) (i e c : Int) (r : List Int) (i' e' : Int) (w : World), Aside0 (RDR w g s i e) → RG s i e c = some (r, i', e') → Calls Try.prog rm #[.pointer (some ⟨g, 0, none⟩), .int .i64 c] w fun en w' => ∃ v, en = .returned v ∧ Aside0 (RDR w' g s i' e') ∧ Aside0 (Below g w w') ∧ Aside0 (KeepOne g w w') ∧ Kd.R (Kd.int .i64) 3 w' w.heap.size (fun k => w.heap.size ≤ k) v r)
    (hE : ∀ (A : Option Addr) (m : Nat) (l : List Int) (r1 : ByteArray) (r2 : Int) (w : World), Kd.C (Kd.int .i64) w A l.length l → l.length ≤ m → EG l = some (r1, r2) → Calls Try.prog em #[.slice A l.length m] w fun en w' => en = .returned (.tuple #[.string r1, .int .i64 r2]) ∧ Below w.heap.size w w')
    (erm : ∀ args w, (callFunc rm args).run Try.prog w = .ok (.enter rm args) w) (eem : ∀ args w, (callFunc em args).run Try.prog w = .ok (.enter em args) w)
    (s : ByteArray) (i e : Int) (r1 : List Int) (r2 : Int) (w : World) (HB : Aside0 (RDR w g s i e)) (h : colG RG EG s i e = some (r1, r2)) :
    Calls Try.prog 21 #[.pointer (some ⟨g, 0, none⟩), .func (.func rm) #[.pointer (some ⟨g, 0, none⟩)] #[], .func (.func em) #[] #[]] w fun en w' => ∃ v, en = .returned (.tuple #[v, .int .i64 r2]) ∧ Aside0 (Kd.R (Kd.int .i64) 3 w' w.heap.size (fun _ => True) v r1) ∧ Aside0 (Below g w w') := by
  have lg := blk_lt HB.out
  unfold colG at h
  obtain ⟨⟨p1, p2, p3⟩, hp, h1⟩ := Option.bind_eq_some_iff.1 h
  clear h
  dsimp only at h1
  have HP := Aside0.mk hp
  clear hp
  go_enter Try.func21, Try.ntmps21
  go_wp2_with fail
  refine (number_read g s i e p1 p2 p3 _ HB HP.out).mono ?_
  rintro en W1 ⟨rfl, b1, l1, k1⟩
  clear HP
  by_cases c1 : p1 > 20000
  · rw [if_pos c1] at h1
    cases h1
    have t1 : decide (20000 < p1) = true := decide_eq_true c1
    go_wp2
    go_ret2
    exact ⟨_, rfl, ⟨Kd.R_nil _ _ _ _ _⟩, l1⟩
  · rw [if_neg c1] at h1
    have t1 : decide (20000 < p1) = false := decide_eq_false c1
    obtain ⟨⟨o1, o2, o3⟩, ho, h2⟩ := Option.bind_eq_some_iff.1 h1
    clear h1
    dsimp only at h2
    have HO := Aside0.mk ho
    clear ho
    go_wp2_with fail
    refine (hR s p2 p3 p1 o1 o2 o3 _ b1 HO.out).mono ?_
    rintro en W2 ⟨v, rfl, b2, l2, k2, hr2⟩
    clear HO
    obtain ⟨A, m, rfl, hm, hc⟩ := Kd.R_reads hr2
    have HR := Aside0.mk hr2
    have HC := Aside0.mk hc
    clear hr2 hc
    have hB2 : Aside0 (Below g w W2) := ⟨l1.out.trans l2.out⟩
    have x0 : W2.cell? ⟨g, 0, none⟩ = some (.string s) := (blk_cell b2.out 0).trans rfl
    have x1 : W2.cell? ⟨g, 1, none⟩ = some (.int .i64 o2) := (blk_cell b2.out 1).trans rfl
    have x2 : W2.cell? ⟨g, 2, none⟩ = some (.int .i64 o3) := (blk_cell b2.out 2).trans rfl
    by_cases c2 : o3 = 0
    · subst c2
      rw [if_pos rfl] at h2
      by_cases c3 : o2 = (s.size : Int)
      · subst c3
        rw [if_pos rfl] at h2
        obtain ⟨⟨q1, q2⟩, hq, h3⟩ := Option.bind_eq_some_iff.1 h2
        clear h2
        dsimp only at h3
        have HQ := Aside0.mk hq
        clear hq
        go_wp2
        go_quiet (fail)
        go_wp2_with fail
        refine (hE A m o1 q1 q2 _ (Kd.C_below HC.out (pw_below_drewN (Below.refl _ _) nq)) hm HQ.out).mono ?_
        rintro en W3 ⟨rfl, hb3⟩
        have HB3 := Aside0.mk ((pw_below_drewN (Below.refl W2.heap.size W2) nq).trans hb3)
        clear hb3 x0 x1 x2
        have x0 : W3.cell? ⟨g, 0, none⟩ = some (.string s) := (blk_cell (blk_below b2.out HB3.out) 0).trans rfl
        have s2 := k2.out.1
        have s1 := k1.out.1
        have hBF : Aside0 (Below g w W3) := ⟨hB2.out.trans (HB3.out.mono (by omega))⟩
        by_cases c4 : q2 = 0
        · subst c4
          rw [if_pos rfl] at h3
          by_cases c5 : q1.toList = s.toList
          · rw [if_pos c5] at h3
            cases h3
            have t5 : decide (q1.toList = s.toList) = true := decide_eq_true c5
            have t6 : (q1.toList == s.toList) = true := beq_iff_eq.mpr c5
            go_wp2
            go_ret2
            exact ⟨_, rfl, ⟨Kd.R_mono (Kd.R_lower (Kd.R_below HR.out HB3.out) (by omega)) (fun _ _ => trivial)⟩, hBF⟩
          · rw [if_neg c5] at h3
            cases h3
            have t5 : decide (q1.toList = s.toList) = false := decide_eq_false c5
            have t6 : (q1.toList == s.toList) = false := beq_eq_false_iff_ne.mpr c5
            have t7 : (q1.toList != s.toList) = true := bne_iff_ne.mpr c5
            go_wp2
            all_goals
              go_ret2
              exact ⟨_, rfl, ⟨Kd.R_nil _ _ _ _ _⟩, hBF⟩
        · rw [if_neg c4] at h3
          cases h3
          have t4 : (q2 != 0) = true := bne_iff_ne.mpr c4
          go_wp2
          go_ret2
          exact ⟨_, rfl, ⟨Kd.R_nil _ _ _ _ _⟩, hBF⟩
      · rw [if_neg c3] at h2
        have t3 : (o2 == (s.size : Int)) = false := beq_eq_false_iff_ne.mpr c3
        have t3' : (o2 != (s.size : Int)) = true := bne_iff_ne.mpr c3
        cases h2
        go_wp2
        go_quiet (fail)
        go_wp2
        go_ret2
        exact ⟨_, rfl, ⟨Kd.R_nil _ _ _ _ _⟩, ⟨pw_below_drewN hB2.out nq⟩⟩
    · rw [if_neg c2] at h2
      have t2 : (o3 != 0) = true := bne_iff_ne.mpr c2
      cases h2
      go_wp2
      go_quiet (fail)
      go_wp2
      go_ret2
      exact ⟨_, rfl, ⟨Kd.R_nil _ _ _ _ _⟩, ⟨pw_below_drewN hB2.out nq⟩⟩
def deltacol_DecodeTimes.f (k : Nat) (a0 : ByteArray) : Option (List Int × Int) := colG (timesG k) (deltacol_EncodeTimes.f k) a0 0 0
def deltacol_DecodeValues.f (k : Nat) (a0 : ByteArray) : Option (List Int × Int) := colG (valuesG k) (deltacol_EncodeValues.f k) a0 0 0
theorem rrunG_mono : ∀ (d : Nat) (s : ByteArray) (i e c : Int) (acc : List Int), LeO (rrunG d s i e c acc) (rrunG (d + 1) s i e c acc)
  | 0, _, _, _, _, _ => LeO.none _
  | d + 1, s, i, e, c, acc => by
    rw [rrunG, rrunG]
    split
    · refine LeO.bind (LeO.refl _) (fun p => LeO.bind (LeO.refl _) (fun q => ?_))
      split
      · split
        · exact LeO.refl _
        · split
          · exact LeO.refl _
          · split
            · exact rrunG_mono d _ _ _ _ _
            · exact LeO.refl _
      · exact LeO.refl _
    · exact LeO.refl _
theorem colG_mono {RG RG' : ByteArray → Int → Int → Int → Option (List Int × Int × Int)} {EG EG' : List Int → Option (ByteArray × Int)} (hR : ∀ s i e c, LeO (RG s i e c) (RG' s i e c)) (hE : ∀ l, LeO (EG l) (EG' l)) (s : ByteArray) (i e : Int) : LeO (colG RG EG s i e) (colG RG' EG' s i e) := by
  unfold colG
  refine LeO.bind (LeO.refl _) (fun p => ?_)
  split
  · exact LeO.refl _
  · refine LeO.bind (hR _ _ _ _) (fun o => ?_)
    split
    · split
      · refine LeO.bind (hE _) (fun q => LeO.refl _)
      · exact LeO.refl _
    · exact LeO.refl _
theorem timesG_mono (d : Nat) (s : ByteArray) (i e c : Int) : LeO (timesG d s i e c) (timesG (d + 1) s i e c) := by
  unfold timesG
  split
  · exact LeO.refl _
  · refine LeO.bind (LeO.refl _) (fun p => ?_)
    split
    · exact LeO.refl _
    · exact LeO.bind (LeO.refl _) (fun q => LeO.bind (rrunG_mono _ _ _ _ _ _) (fun o => LeO.bind (deltacol_sums.mono _ _ _) (fun t => LeO.bind (deltacol_sums.mono _ _ _) (fun u => LeO.refl _))))
theorem valuesG_mono (d : Nat) (s : ByteArray) (i e c : Int) : LeO (valuesG d s i e c) (valuesG (d + 1) s i e c) := by
  unfold valuesG
  split
  · exact LeO.refl _
  · exact LeO.bind (LeO.refl _) (fun p => LeO.bind (rrunG_mono _ _ _ _ _ _) (fun o => LeO.bind (deltacol_sums.mono _ _ _) (fun u => LeO.refl _)))
theorem deltacol_DecodeTimes.mono : ∀ a0 k, LeO (deltacol_DecodeTimes.f k a0) (deltacol_DecodeTimes.f (k + 1) a0) := fun a0 k => colG_mono (fun s i e c => timesG_mono k s i e c) (fun l => deltacol_EncodeTimes.mono l k) a0 0 0
theorem deltacol_DecodeValues.mono : ∀ a0 k, LeO (deltacol_DecodeValues.f k a0) (deltacol_DecodeValues.f (k + 1) a0) := fun a0 k => colG_mono (fun s i e c => valuesG_mono k s i e c) (fun l => deltacol_EncodeValues.mono l k) a0 0 0
set_option maxHeartbeats 2000000 in
theorem deltacol_DecodeTimes.calls (k : Nat) (a0 : ByteArray) (r1 : List Int) (r2 : Int) (w : World) (h : deltacol_DecodeTimes.f k a0 = some (r1, r2)) :
    Calls Try.prog 12 #[.string a0] w fun e w' => ∃ v0_ : Value, e = .returned (.tuple #[v0_, .int .i64 r2]) ∧ Kd.R (Kd.int .i64) 3 w' w.heap.size (fun _ => True) v0_ r1 ∧ Below w.heap.size w w' := by
  have H := Aside0.mk h
  clear h
  obtain ⟨W1, hW1⟩ : ∃ W1, W1 = w.alloc (.cells #[.string a0, .int .i64 0, .int .i64 0] 45) := ⟨_, rfl⟩
  have B1 : Aside0 (RDR W1 w.heap.size a0 0 0) := ⟨by rw [hW1]; exact World.alloc_heap_new w _⟩
  have L1 : Aside0 (Below w.heap.size w W1) := ⟨by rw [hW1]; exact (Below.refl _ w).alloc (Nat.le_refl _) _⟩
  go_enter Try.func12, Try.ntmps12
  go_wp2_with fail
  rw [← hW1]
  refine (column_calls 22 8 w.heap.size (timesG k) (deltacol_EncodeTimes.f k) (fun s i e c r i' e' w' h1 h2 => reader_times k _ s i e c r i' e' w' h1 h2) (fun A m l r1 r2 w h1 h2 h3 => deltacol_EncodeTimes.calls k A m l r1 r2 w h1 h2 h3) (enters_of Try.func22 (by kernel_rfl) rfl) (enters_of Try.func8 (by kernel_rfl) rfl) a0 0 0 r1 r2 W1 B1 H.out).mono ?_
  rintro en W2 ⟨v, rfl, hr, hb⟩
  go_wp2
  go_ret2
  exact ⟨_, rfl, Kd.R_lower hr.out L1.out.size, L1.out.trans hb.out⟩
set_option maxHeartbeats 2000000 in
theorem deltacol_DecodeValues.calls (k : Nat) (a0 : ByteArray) (r1 : List Int) (r2 : Int) (w : World) (h : deltacol_DecodeValues.f k a0 = some (r1, r2)) :
    Calls Try.prog 15 #[.string a0] w fun e w' => ∃ v0_ : Value, e = .returned (.tuple #[v0_, .int .i64 r2]) ∧ Kd.R (Kd.int .i64) 3 w' w.heap.size (fun _ => True) v0_ r1 ∧ Below w.heap.size w w' := by
  have H := Aside0.mk h
  clear h
  obtain ⟨W1, hW1⟩ : ∃ W1, W1 = w.alloc (.cells #[.string a0, .int .i64 0, .int .i64 0] 45) := ⟨_, rfl⟩
  have B1 : Aside0 (RDR W1 w.heap.size a0 0 0) := ⟨by rw [hW1]; exact World.alloc_heap_new w _⟩
  have L1 : Aside0 (Below w.heap.size w W1) := ⟨by rw [hW1]; exact (Below.refl _ w).alloc (Nat.le_refl _) _⟩
  go_enter Try.func15, Try.ntmps15
  go_wp2_with fail
  rw [← hW1]
  refine (column_calls 24 9 w.heap.size (valuesG k) (deltacol_EncodeValues.f k) (fun s i e c r i' e' w' h1 h2 => reader_values k _ s i e c r i' e' w' h1 h2) (fun A m l r1 r2 w h1 h2 h3 => deltacol_EncodeValues.calls k A m l r1 r2 w h1 h2 h3) (enters_of Try.func24 (by kernel_rfl) rfl) (enters_of Try.func9 (by kernel_rfl) rfl) a0 0 0 r1 r2 W1 B1 H.out).mono ?_
  rintro en W2 ⟨v, rfl, hr, hb⟩
  go_wp2
  go_ret2
  exact ⟨_, rfl, Kd.R_lower hr.out L1.out.size, L1.out.trans hb.out⟩
end Go.Proofs.Ytbihedcjcmcjaaa.Hand
end
