/- Several texts of this session in one. No condition beyond those in the statements. -/
import Derived.Test.YtfklecicddpcjaaAA
import Derived.Test.YtfklecicddpcjaaWMore
import Derived.Lib.AppendStr
import Derived.WalkKit
import Derived.Test.YtfklecicddpcjaaProg
import Derived.Test.YtfklecicddpcjaaSeq
import Derived.RangeFuncBox
import Derived.Shelf.Abstract
import Derived.OwnWalkIn
import Derived.TacticsInMore
import Derived.LoopNIn
import Derived.LoopIn
import Derived.StillTailTactics
import Derived.Deep.QuietTactic
import Derived.BigQuiet
import Derived.Test.YtfklecicddpcjaaIn
import Derived.Maps.OwnIn
import Derived.Maps.OwnSet
import Derived.StringKeys
import Derived.Maps.Views
import Derived.WalkSpells
import Derived.Test.YtfklecicddpcjaaShelf
import Derived.Test.YtfklecicddpcjaaWKept
import Derived.Test.YtfklecicddpcjaaWRepsOne
import Derived.Lib.RowBridge
import Derived.Carry
import Derived.Sort.CutIn
section
namespace Go.Proofs.Ytfklecicddpcjaa.Hand
open Go.RowKit Go.Proofs.YtfklecicddpcjaaW.PrintWords Go.Proofs.YtfklecicddpcjaaW.PrintMore Go.Proofs.Ytfklecicddpcjaa.A
set_option linter.unusedVariables false
set_option linter.unusedSimpArgs false
theorem infoB : (Try.prog.info? 5).map (fun i => (i.zero, i.size, i.bytes)) = some (some (.int .u8 0), 1, 1) := by kernel_rfl
def dictcol_appendNumber.f (k : Nat) (l0 : List Int) (a1 : Int) : Option (List Int) := (varint_Append.f k (⟨#[]⟩ : ByteArray) a1).bind fun p => (if l0.length + p.1.size < 140737488355328 then (some (l0 ++ bytesOf p.1)) else (none))
theorem dictcol_appendNumber.mono : ∀ a0 a1 k, LeO (dictcol_appendNumber.f k a0 a1) (dictcol_appendNumber.f (k + 1) a0 a1) := fun a0 a1 k => LeO.bind (varint_Append.mono _ _ _) (fun _ => LeO.refl _)
set_option maxRecDepth 100000 in
set_option maxHeartbeats 2000000 in
/-- What becomes of a row of bytes of the caller's own to which a string is appended; base: where the caller's own rows begin. -/
theorem dictcol_appendNumber.calls (k : Nat) (P0_ : Nat → Prop) (u : Value) (l0 : List Int) (a1 : Int) (r : List Int) (w0 w : World) (hB : Below w0.heap.size w0 w) (ho0 : Kd.R (Kd.int .u8) 5 w w0.heap.size P0_ u l0) (h : dictcol_appendNumber.f k l0 a1 = some r) :
    Calls Try.prog 37 #[u, .int .i64 a1] w fun e w' => ∃ v : Value, e = .returned v ∧ Kd.R (Kd.int .u8) 5 w' w0.heap.size (fun _ => True) v r ∧ Below w0.heap.size w0 w' ∧ w.grownBy w' u.ownBlock := by
  unfold dictcol_appendNumber.f at h
  obtain ⟨⟨p1, p2⟩, hp, h1⟩ := Option.bind_eq_some_iff.1 h
  clear h
  dsimp only at h1
  split at h1
  case isFalse => cases h1
  rename_i hlen
  cases h1
  obtain ⟨A, c, rfl, _⟩ := Kd.R_reads ho0
  have HP := Aside0.mk hp
  have HO := Aside0.mk ho0
  have HB := Aside0.mk hB
  have HL := Aside0.mk hlen
  clear hp ho0 hB hlen
  go_enter Try.func37, Try.ntmps37
  go_wp2_with fail
  refine (varint_Append.calls k (⟨#[]⟩ : ByteArray) a1 p1 p2 _ HP.out).mono ?_
  rintro e w5 ⟨rfl, hb⟩
  have HB5 := Aside0.mk hb
  have HO5 := Aside0.mk (Kd.R_below HO.out hb)
  clear hb
  go_wp2_with (at_builtin; refine print_append_str (w0 := w5) w0.heap.size rfl (.tmp 12) (.tmp 13) 48 9 5 rfl Try.underlying48 Try.underlying9 infoB (.slice A l0.length c) l0 p1 rfl rfl ?aO ?aB ?aS ?aL ?_; (case aB => exact Below.refl _ _); (case aO => exact (Kd.own_of_R HO5.out)); (case aS => exact Nat.le_trans HB.out.size HB5.out.size); (case aL => exact Nat.le_of_lt HL.out); intro v1 w1 hown hb1 hg1; have HV := Aside0.mk hown; have HG := Aside0.mk hg1; have HB1 := Aside0.mk hb1; clear hown hg1 hb1)
  go_ret
  refine ⟨_, rfl, Kd.R_of_own HV.out (fun _ _ => trivial), (HB.out.trans (HB5.out.mono HB.out.size)).trans HB1.out, ?_⟩
  have g5 : w.grownBy w5 (Value.slice A l0.length c).ownBlock := ⟨HB5.out.os, HB5.out.tape, HB5.out.output, HB5.out.size, fun k hk _ => HB5.out.block k hk⟩
  exact World.grownBy.trans g5 HG.out
end Go.Proofs.Ytfklecicddpcjaa.Hand
end
section
namespace Go.Proofs.Ytfklecicddpcjaa.Hand
open Go.RowKit Go.Shelf Go.Proofs.YtfklecicddpcjaaW.PrintWords Go.Proofs.YtfklecicddpcjaaW.PrintMore Go.Proofs.Ytfklecicddpcjaa.Seq
attribute [local go_sem] Oper.semAt_some
set_option linter.unusedVariables false
set_option linter.unusedSimpArgs false
/-- How many numbers of a list, from its first on, are x. -/
def eqN (x : ByteArray) : List ByteArray → Nat
  | [] => 0
  | y :: r => if y.toList = x.toList then eqN x r + 1 else 0
abbrev rdS (l : List ByteArray) (i : Int) : ByteArray := rdOf ByteArray.empty l i
theorem eqN_le (x : ByteArray) : ∀ l : List ByteArray, eqN x l ≤ l.length
  | [] => Nat.le_refl _
  | y :: r => by
    unfold eqN
    split
    · have := eqN_le x r; simp; omega
    · simp
def runF : Nat → List ByteArray → List (ByteArray × Int)
  | 0, _ => []
  | _ + 1, [] => []
  | d + 1, x :: r => (x, ((eqN x r + 1 : Nat) : Int)) :: runF d (r.drop (eqN x r))
/-- The runs of a list: each number and how often it stands there. -/
def runL (l : List ByteArray) : List (ByteArray × Int) := runF l.length l
theorem runF_fuel : ∀ (d e : Nat) (l : List ByteArray), l.length ≤ d → l.length ≤ e → runF d l = runF e l
  | 0, 0, _, _, _ => rfl
  | 0, e + 1, [], _, _ => rfl
  | d + 1, 0, [], _, _ => rfl
  | d + 1, e + 1, [], _, _ => rfl
  | d + 1, e + 1, x :: r, h1, h2 => by
    simp only [List.length_cons] at h1 h2
    rw [runF, runF, runF_fuel d e (r.drop (eqN x r)) (by rw [List.length_drop]; omega) (by rw [List.length_drop]; omega)]
theorem runL_nil : runL [] = [] := rfl
theorem runL_cons (x : ByteArray) (r : List ByteArray) : runL (x :: r) = (x, ((eqN x r + 1 : Nat) : Int)) :: runL (r.drop (eqN x r)) := by
  unfold runL
  rw [List.length_cons, runF, runF_fuel r.length (r.drop (eqN x r)).length _ (by rw [List.length_drop]; omega) (Nat.le_refl _)]
theorem runF_len : ∀ (d : Nat) (l : List ByteArray), (runF d l).length ≤ d
  | 0, _ => Nat.le_refl _
  | _ + 1, [] => by simp [runF]
  | d + 1, x :: r => by simp only [runF, List.length_cons]; have := runF_len d (r.drop (eqN x r)); omega
theorem runL_len (l : List ByteArray) : (runL l).length ≤ l.length := runF_len _ _
theorem runF_pos : ∀ (d : Nat) (l : List ByteArray), ∀ p ∈ runF d l, p.1 ∈ l ∧ 1 ≤ p.2 ∧ p.2 ≤ l.length
  | 0, _, p, h => by simp [runF] at h
  | _ + 1, [], p, h => by simp [runF] at h
  | d + 1, x :: r, p, h => by
    have hle := eqN_le x r
    rcases List.mem_cons.1 h with rfl | h
    · exact ⟨by simp, by dsimp only; omega, by simp; omega⟩
    · obtain ⟨h1, h2, h3⟩ := runF_pos d _ p h
      exact ⟨List.mem_cons_of_mem _ (List.mem_of_mem_drop h1), h2, by rw [List.length_drop] at h3; simp; omega⟩
def KeptAt (S : Nat → Prop) (W W' : World) : Prop := ∀ k, S k → W'.heap[k]? = W.heap[k]?
theorem keptAt_t {S : Nat → Prop} {A B C : World} (h : KeptAt S A B) (k : KeptAt S B C) : KeptAt S A C := fun i hi => (k i hi).trans (h i hi)
def encR (L : List (ByteArray × Int)) (k : Nat) : Array Value := #[.string (L.getD k (ByteArray.empty, 0)).1, .int .i64 (L.getD k (ByteArray.empty, 0)).2]
def RunS (n0 b : Nat) (k : Nat) : Prop := k < n0 ∨ k = b
def RunAt (W w0 : World) (b : Nat) (A : Option Addr) (c : Nat) (l : List ByteArray) : Prop := Boxed W b 22 (.slice A l.length c) ∧ ∀ k, k < w0.heap.size → W.heap[k]? = w0.heap[k]?
theorem RunAt.move {W W' w0 : World} {b : Nat} {A : Option Addr} {c : Nat} {l : List ByteArray} (h : RunAt W w0 b A c l) (hk : KeptAt (RunS w0.heap.size b) W W') : RunAt W' w0 b A c l :=
  ⟨(hk b (.inr rfl)).trans h.1, fun k hlt => (hk k (.inl hlt)).trans (h.2 k hlt)⟩
theorem RunAt.row {W w0 : World} {b : Nat} {A : Option Addr} {c : Nat} {l : List ByteArray} (h : RunAt W w0 b A c l) (hC : Kd.C Kd.string w0 A l.length l) : Kd.C Kd.string W A l.length l := Kd.heap_string.C (fun k hk => h.2 k hk) hC
theorem RunAt.same {W W' w0 : World} {b : Nat} {A : Option Addr} {c : Nat} {l : List ByteArray} (h : RunAt W w0 b A c l) (e : W'.heap = W.heap) : RunAt W' w0 b A c l := h.move (fun k _ => by rw [e])
theorem drop_rd {l : List ByteArray} {i : Nat} (h : i < l.length) : l.drop i = rdS l (i : Int) :: l.drop (i + 1) := by
  rw [List.drop_eq_getElem_cons h]
  congr 1
  simp [rdS, rdOf, List.getD, List.getElem?_eq_getElem h]
theorem encR_at {L : List (ByteArray × Int)} {k : Nat} {x : ByteArray} {y : Int} {rest : List (ByteArray × Int)} (h : L.drop k = (x, y) :: rest) : k < L.length ∧ encR L k = #[.string x, .int .i64 y] ∧ L.drop (k + 1) = rest := by
  have hk : k < L.length := by
    rcases Nat.lt_or_ge k L.length with h' | h'
    · exact h'
    · rw [List.drop_eq_nil_of_le h'] at h; cases h
  rw [List.drop_eq_getElem_cons hk] at h
  injection h with h1 h2
  refine ⟨hk, ?_, h2⟩
  simp [encR, List.getD, List.getElem?_eq_getElem hk, h1]
theorem grown_drewN (W : World) (m : Nat) : W.grownBy (W.drewN m) none := ⟨rfl, rfl, rfl, Nat.le_refl _, fun _ _ _ => rfl⟩
theorem abides_drewN {B : Nat} {J : Nat → World → Prop} (h : AbidesFrom B J) {k : Nat} {W : World} (m : Nat) (hj : J k W) : J k (W.drewN m) := h k W _ none hj (grown_drewN W m) (fun r e => by cases e)
set_option maxRecDepth 100000 in
set_option maxHeartbeats 4000000 in
theorem runs_seq (n : Nat) (hn : 1 ≤ n) (w0 : World) (b : Nat) (A : Option Addr) (c : Nat) (l : List ByteArray) (hC : Kd.C Kd.string w0 A l.length l) (w : World) (hw : RunAt w w0 b A c l) :
    SeqL Fence.wide n Try.prog 56 #[.pointer (some ⟨b, 0, none⟩)] (encR (runL l)) (runL l).length (KeptAt (RunS w0.heap.size b)) w := by
  intro lp J Jx W hW hJ hJx hY h0
  have hlt0 := hw.1.lt
  have hbW : RunAt W w0 b A c l := ⟨(hW.block b hw.1.lt).trans hw.1, fun k hk => (hW.block k (by
    have := hw.2 k hk
    rw [Array.getElem?_eq_getElem hk] at this
    exact (Array.getElem?_eq_some_iff.1 this).1)).trans (hw.2 k hk)⟩
  have hm := hC.2.1
  refine callsIn_of_wp Try.func56 rfl trivial ?_ rfl
  simp only [Try.ntmps56, List.size_toArray, List.length_cons, List.length_nil, Nat.reduceAdd, Nat.reduceSub, Array.replicate_succ, Array.replicate_zero, List.push_toArray, List.append_toArray, List.nil_append, List.cons_append]
  gi_wp2
  gi_loopw [3] (fun v3 wr => ∃ i k : Nat, i ≤ l.length ∧ v3 = .int .i64 i ∧ Aside0 (runL (l.drop i) = (runL l).drop k) ∧ k ≤ (runL l).length ∧ J k wr ∧ RunAt wr w0 b A c l)
    (fun v3 _ => l.length - (intOf v3).toNat)
  case atStart => exact ⟨0, 0, Nat.zero_le _, rfl, ⟨rfl⟩, Nat.zero_le _, h0, hbW⟩
  case round =>
    obtain ⟨i, k, hi, rfl, HE, hkl, hJs, hbr⟩ := hrel
    have q1 := hbr.1.cell
    by_cases ci : i < l.length
    · have ti : decide (i < l.length) = true := decide_eq_true ci
      obtain ⟨ad, rfl, r0⟩ := Kd.at_string (hbr.row hC) (i : Int) (by omega) (by omega)
      simp only [Int.toNat_natCast] at r0
      have hle := eqN_le (rdS l i) (l.drop (i + 1))
      rw [List.length_drop] at hle
      gi_wp2
      gi_loopw [4] (fun v4 ws => ∃ (te m : Nat), i + 1 ≤ te ∧ te ≤ l.length ∧ v4 = .int .i64 te ∧ eqN (rdS l i) (l.drop te) + te = eqN (rdS l i) (l.drop (i + 1)) + (i + 1) ∧ ws = wr.drewN m)
        (fun v4 _ => l.length - (intOf v4).toNat)
      case atStart => exact ⟨i + 1, 0, Nat.le_refl _, by omega, by go_num, rfl, rfl⟩
      case round =>
        obtain ⟨te, m, h1, h2, rfl, heq, rfl⟩ := hrel
        by_cases ct : te < l.length
        · have tt : decide (te < l.length) = true := decide_eq_true ct
          obtain ⟨ad2, e2, r2⟩ := Kd.at_string (hbr.row hC) (te : Int) (by omega) (by omega)
          cases e2
          simp only [Int.toNat_natCast] at r2
          rw [drop_rd ct, eqN] at heq
          by_cases cx : (rdS l te).toList = (rdS l i).toList
          · rw [if_pos cx] at heq
            have tx : ((rdS l te).toList == (rdS l i).toList) = true := beq_iff_eq.mpr cx
            have tx2 : decide ((rdS l te).toList = (rdS l i).toList) = true := decide_eq_true cx
            gi_wp2
            refine wpIn_wide.2 ?_
            go_quiet (fail)
            gi_wp2
            go_roundw
            case rel => exact ⟨te + 1, m + nq, by omega, by omega, by go_num, by omega, by simp [World.drewN, Nat.add_assoc]⟩
            case measure => simp [intOf]; omega
          · rw [if_neg cx] at heq
            have tx : ((rdS l te).toList == (rdS l i).toList) = false := beq_eq_false_iff_ne.mpr cx
            have tx2 : decide ((rdS l te).toList = (rdS l i).toList) = false := decide_eq_false cx
            gi_wp2
            refine wpIn_wide.2 ?_
            go_quiet (fail)
            have hJn := abides_drewN hJ nq (abides_drewN hJ m hJs)
            have hbn : RunAt ((wr.drewN m).drewN nq) w0 b (some ad) c l := hbr.same rfl
            have r0n : ((wr.drewN m).drewN nq).cell? (ad.add i) = some (.string (rdS l i)) := r0
            generalize (wr.drewN m).drewN nq = Wn at hJn hbn r0n ⊢
            have q1n := hbn.1.cell
            have hk1 : te = eqN (rdS l i) (l.drop (i + 1)) + (i + 1) := by omega
            obtain ⟨hk, henc, hrest⟩ := encR_at (k := k) (L := runL l) (HE.out.symm.trans (by rw [drop_rd ci, runL_cons]))
            obtain ⟨fn, tmps, assign, body, hy, hR⟩ := hY k Wn hk hJn
            rw [henc, show ((eqN (rdS l i) (l.drop (i + 1)) + 1 : Nat) : Int) = (te : Int) - (i : Int) by omega] at hy
            try dsimp only at hy
            have hwr : wrap64 ((te : Int) - (i : Int)) = (te : Int) - (i : Int) := by unfold wrap64; omega
            have HK1 := Aside0.mk hk1
            clear hk1 heq
            gi_wp2
            refine hR.mono ?_
            rintro e W3 (⟨rfl, hJ3, hk3⟩ | ⟨rfl, hJx3⟩)
            · gi_wp2
              go_roundw
              case rel => exact ⟨te, k + 1, h2, rfl, ⟨by rw [hrest, List.drop_drop, show i + 1 + eqN (rdS l i) (l.drop (i + 1)) = te by have := HK1.out; omega]⟩, hk, hJ3, hbn.move hk3⟩
              case measure => simp [intOf]; omega
            · gi_wp2
              refine bodyPost_ret (results_none rfl _ _ _) rfl ?_
              exact ⟨⟨_, rfl⟩, .inr ⟨k + 1, hk, hJx3⟩⟩
        · have tt : decide (te < l.length) = false := decide_eq_false ct
          rw [List.drop_eq_nil_of_le (by omega), eqN] at heq
          gi_wp2
          refine wpIn_wide.2 ?_
          go_quiet (fail)
          have hJn := abides_drewN hJ nq (abides_drewN hJ m hJs)
          have hbn : RunAt ((wr.drewN m).drewN nq) w0 b (some ad) c l := hbr.same rfl
          have r0n : ((wr.drewN m).drewN nq).cell? (ad.add i) = some (.string (rdS l i)) := r0
          generalize (wr.drewN m).drewN nq = Wn at hJn hbn r0n ⊢
          have q1n := hbn.1.cell
          have hk1 : te = eqN (rdS l i) (l.drop (i + 1)) + (i + 1) := by omega
          obtain ⟨hk, henc, hrest⟩ := encR_at (k := k) (L := runL l) (HE.out.symm.trans (by rw [drop_rd ci, runL_cons]))
          obtain ⟨fn, tmps, assign, body, hy, hR⟩ := hY k Wn hk hJn
          rw [henc, show ((eqN (rdS l i) (l.drop (i + 1)) + 1 : Nat) : Int) = (te : Int) - (i : Int) by omega] at hy
          try dsimp only at hy
          have hwr : wrap64 ((te : Int) - (i : Int)) = (te : Int) - (i : Int) := by unfold wrap64; omega
          have HK1 := Aside0.mk hk1
          clear hk1 heq
          gi_wp2
          refine hR.mono ?_
          rintro e W3 (⟨rfl, hJ3, hk3⟩ | ⟨rfl, hJx3⟩)
          · gi_wp2
            go_roundw
            case rel => exact ⟨te, k + 1, h2, rfl, ⟨by rw [hrest, List.drop_drop, show i + 1 + eqN (rdS l i) (l.drop (i + 1)) = te by have := HK1.out; omega]⟩, hk, hJ3, hbn.move hk3⟩
            case measure => simp [intOf]; omega
          · gi_wp2
            refine bodyPost_ret (results_none rfl _ _ _) rfl ?_
            exact ⟨⟨_, rfl⟩, .inr ⟨k + 1, hk, hJx3⟩⟩
    · have ti : decide (i < l.length) = false := decide_eq_false ci
      have hkl2 : k = (runL l).length := by
        have h := HE.out
        rw [List.drop_eq_nil_of_le (by omega), runL_nil] at h
        have := congrArg List.length h
        rw [List.length_drop] at this
        simp at this
        omega
      subst hkl2
      gi_wp2
      first | (refine bodyPost_end (results_none rfl _ _ _) rfl ?_) | (refine bodyPost_ret (results_none rfl _ _ _) rfl ?_)
      exact ⟨⟨_, rfl⟩, .inl hJs⟩
end Go.Proofs.Ytfklecicddpcjaa.Hand
end
section
namespace Go.Proofs.Ytfklecicddpcjaa.Hand
open Go.RowKit Go.Shelf Go.Maps Go.Proofs.YtfklecicddpcjaaW.PrintWords Go.Proofs.YtfklecicddpcjaaW.PrintMore Go.Proofs.Ytfklecicddpcjaa.Seq Go.Proofs.Ytfklecicddpcjaa.A
set_option linter.unusedVariables false
set_option linter.unusedSimpArgs false
/-- What a step keeps that writes one variable and rows of bytes. -/
structure Okp (bb : Nat) (w W : World) : Prop where
  size : w.heap.size ≤ W.heap.size
  same : ∀ (k : Nat) (o : Obj), w.heap[k]? = some o → k ≠ bb → (∀ c fz, o ≠ .cells c 5 fz) → W.heap[k]? = some o
theorem Okp.refl (bb : Nat) (w : World) : Okp bb w w := ⟨Nat.le_refl _, fun _ _ h _ _ => h⟩
theorem Okp.trans {bb : Nat} {a b c : World} (h : Okp bb a b) (k : Okp bb b c) : Okp bb a c := ⟨Nat.le_trans h.size k.size, fun i o h1 h2 h3 => k.same i o (h.same i o h1 h2 h3) h2 h3⟩
theorem Okp.of_below {bb : Nat} {a b : World} (h : Below a.heap.size a b) : Okp bb a b := ⟨h.size, fun k o hk _ _ => (h.block k (Array.getElem?_eq_some_iff.1 hk).1).trans hk⟩
theorem Okp.set {bb : Nat} {a b : World} (h : Okp bb a b) (i : Nat) (v : Value) : Okp bb a (b.setCell ⟨bb, i, none⟩ v) := ⟨by simpa using h.size, fun k o h1 h2 h3 => (Below.heap_setCell b ⟨bb, i, none⟩ v k h2).trans (h.same k o h1 h2 h3)⟩
theorem Okp.drewN {bb : Nat} {a b : World} (h : Okp bb a b) (m : Nat) : Okp bb a (b.drewN m) := ⟨h.size, h.same⟩
theorem Okp.keeps {bb : Nat} {a b : World} (h : Okp bb a b) {cs : Array Value} {t : TypeId} {fz : Nat × Nat} (hb : a.heap[bb]? = some (.cells cs t fz)) : ∀ B, KeepsFrom B a b := fun B => ⟨h.size, fun k o _ hk hc => h.same k o hk (fun e => by subst e; rw [hb] at hk; cases hk; cases hc) (fun c fz e => by subst e; cases hc)⟩
/-- Bytes in the variable at block bb; Z: the world from which on the rows are the call's own. -/
structure EB (Z W : World) (bb : Nat) (A : Option Addr) (c : Nat) (bs : List Int) : Prop where
  box : W.heap[bb]? = some (.cells #[.slice A bs.length c] 48 (0, 0))
  row : Kd.R (Kd.int .u8) 5 W Z.heap.size (fun k => Z.heap.size ≤ k) (.slice A bs.length c) bs
  lb : Z.heap.size ≤ bb
  below : Below Z.heap.size Z W
theorem EB.lt {Z W : World} {bb : Nat} {A : Option Addr} {c : Nat} {bs : List Int} (h : EB Z W bb A c bs) : bb < W.heap.size := blk_lt h.box
theorem EB.cell {Z W : World} {bb : Nat} {A : Option Addr} {c : Nat} {bs : List Int} (h : EB Z W bb A c bs) : W.cell? ⟨bb, 0, none⟩ = some (.slice A bs.length c) := (blk_cell h.box 0).trans rfl
theorem EB.frozen {Z W : World} {bb : Nat} {A : Option Addr} {c : Nat} {bs : List Int} (h : EB Z W bb A c bs) : W.frozen? ⟨bb, 0, none⟩ = false := blk_frozen h.box 0
theorem EB.drewN {Z W : World} {bb : Nat} {A : Option Addr} {c : Nat} {bs : List Int} (h : EB Z W bb A c bs) (m : Nat) : EB Z (W.drewN m) bb A c bs := ⟨h.box, Kd.R_drewN h.row m, h.lb, pw_below_drewN h.below m⟩
theorem EB.drew {Z W : World} {bb : Nat} {A : Option Addr} {c : Nat} {bs : List Int} (h : EB Z W bb A c bs) : EB Z W.drew bb A c bs := ⟨h.box, Kd.R_drew h.row, h.lb, below_drew1 h.below⟩
/-- What the walk needs behind a call that has handed back new bytes, and what it is behind their store. -/
structure EBn (Z W W' : World) (bb : Nat) (A : Option Addr) (c : Nat) (bs : List Int) : Prop where
  fro : W'.frozen? ⟨bb, 0, none⟩ = false
  cel : ∃ u, W'.cell? ⟨bb, 0, none⟩ = some u
  lt : bb < W'.heap.size
  next : EB Z (W'.setCell ⟨bb, 0, none⟩ (.slice A bs.length c)) bb A c bs
  okp : Okp bb W (W'.setCell ⟨bb, 0, none⟩ (.slice A bs.length c))
theorem EB.step {Z W W' : World} {bb : Nat} {A A' : Option Addr} {c c' : Nat} {bs bs' : List Int} (h : EB Z W bb A c bs) (hs : W.heap.size ≤ W'.heap.size)
    (hk : ∀ k, k < W.heap.size → some k ≠ (Value.slice A bs.length c).ownBlock → W'.heap[k]? = W.heap[k]?) (hr : Kd.R (Kd.int .u8) 5 W' Z.heap.size (fun k => Z.heap.size ≤ k) (.slice A' bs'.length c') bs') (hb : Below Z.heap.size Z W') : EBn Z W W' bb A' c' bs' := by
  have hne : some bb ≠ (Value.slice A bs.length c).ownBlock := Kd.R_ne h.row h.box (by decide)
  have hbox : W'.heap[bb]? = some (.cells #[.slice A bs.length c] 48 (0, 0)) := (hk bb h.lt hne).trans h.box
  refine ⟨blk_frozen hbox 0, ⟨_, (blk_cell hbox 0).trans rfl⟩, blk_lt hbox, ⟨?_, Kd.R_set hr hbox (by intro q hq; simp [Kd.int, Kd.scalar] at hq; subst hq; decide) 0 _, h.lb, hb.setCell h.lb _⟩, Okp.set ⟨hs, fun k o h1 h2 h3 => ?_⟩ 0 _⟩
  · exact blk_put hbox 0 _ rfl
  · refine (hk k (Array.getElem?_eq_some_iff.1 h1).1 (fun e => ?_)).trans h1
    obtain ⟨cells, hc⟩ := Kd.R_typed h.row k e.symm
    rw [h1] at hc
    cases hc
    exact h3 _ _ rfl
/-- b = appendNumber(b, n). -/
theorem EB.num {k : Nat} {Z W : World} {bb : Nat} {A : Option Addr} {c : Nat} {bs : List Int} {n : Int} {r : List Int} (h : EB Z W bb A c bs) (hr : dictcol_appendNumber.f k bs n = some r) :
    Calls Try.prog 37 #[.slice A bs.length c, .int .i64 n] W fun e W' => ∃ A' c', e = .returned (.slice A' r.length c') ∧ EBn Z W W' bb A' c' r := by
  refine (dictcol_appendNumber.calls k (fun k_ => some k_ = (Value.slice A bs.length c).ownBlock) (.slice A bs.length c) bs n r Z W h.below (Kd.R_tight rfl h.row) hr).mono ?_
  rintro e W' ⟨v, rfl, hR, hB, hK⟩
  obtain ⟨A', c', rfl, _⟩ := Kd.R_reads hR
  exact ⟨A', c', rfl, h.step hK.size hK.block (Kd.R_mono (Kd.R_bound hR) (fun k hk => hk.2.1)) hB⟩
theorem EB.other {Z W W' : World} {bb : Nat} {A : Option Addr} {c : Nat} {bs : List Int} (h : EB Z W bb A c bs) (hs : W.heap.size ≤ W'.heap.size) (hk : ∀ (k : Nat) cs t fz, W.heap[k]? = some (.cells cs t fz) → W'.heap[k]? = some (.cells cs t fz)) (hb : Below Z.heap.size Z W') : EB Z W' bb A c bs :=
  ⟨hk _ _ _ _ h.box, Kd.R_mono (Kd.R_move (Kd.R_bound h.row) (fun k hh => by
    obtain ⟨_, _, _, q, _, cells, hc⟩ := hh
    exact (hk _ _ _ _ hc).trans hc.symm)) (fun _ hh => hh.1), h.lb, hb⟩
theorem lawS : Keyed Try.prog 9 := string_keyed Try.underlying9
theorem zeroI (w : World) : (zeroValue 3).run Try.prog w = .ok (.int .i64 0) w := by kernel_rfl
/-- The places in the variable at block bp. -/
structure MB (W : World) (bp mb n : Nat) (D : DataW (TypeId × Value)) : Prop where
  box : W.heap[bp]? = some (.cells #[.map (some mb)] 50 (0, 0))
  own : W.ownsMap Try.prog 9 (plainElem Try.prog 3) mb n D
theorem MB.move {W W' : World} {bp mb n : Nat} {D : DataW (TypeId × Value)} (h : MB W bp mb n D) (hk : ∀ (k : Nat) (o : Obj), W.heap[k]? = some o → (∀ c fz, o ≠ .cells c 48 fz) → (∀ c fz, o ≠ .cells c 5 fz) → W'.heap[k]? = some o) : MB W' bp mb n D := by
  refine ⟨hk _ _ h.box (fun c fz e => by cases e) (fun c fz e => by cases e), ?_⟩
  obtain ⟨es, clock, h1, h2, h3, h4⟩ := h.own
  exact ⟨es, clock, hk _ _ h1 (fun c fz e => by cases e) (fun c fz e => by cases e), h2, h3, h4⟩
theorem MB.okp {W W' : World} {bp mb n bb : Nat} {cs : Array Value} {D : DataW (TypeId × Value)} (h : MB W bp mb n D) (hb : W.heap[bb]? = some (.cells cs 48 (0, 0))) (hk : Okp bb W W') : MB W' bp mb n D :=
  h.move (fun k o h1 h2 h3 => hk.same k o h1 (fun e => by subst e; rw [hb] at h1; cases h1; exact h2 _ _ rfl) h3)
theorem MB.cell {W : World} {bp mb n : Nat} {D : DataW (TypeId × Value)} (h : MB W bp mb n D) : W.cell? ⟨bp, 0, none⟩ = some (.map (some mb)) := (blk_cell h.box 0).trans rfl
theorem MB.made (W : World) : MB ((W.alloc (.map #[] 0)).alloc (.cells #[.map (some W.heap.size)] 50)) (W.heap.size + 1) W.heap.size 0 (.map []) :=
  ⟨by have := World.alloc_heap_new (W.alloc (.map #[] 0)) (.cells #[.map (some W.heap.size)] 50); simpa using this, (World.ownsMap_made W _ _ _).alloc _⟩
theorem EB.alloc {Z W : World} {bb : Nat} {A : Option Addr} {c : Nat} {bs : List Int} (h : EB Z W bb A c bs) (o : Obj) : EB Z (W.alloc o) bb A c bs := ⟨blk_alloc h.box o, Kd.R_alloc h.row o, h.lb, h.below.alloc h.below.size o⟩
theorem MB.keptR {X Y : World} {bp mb n Bnd : Nat} {D : DataW (TypeId × Value)} {row : Option Nat} (h : MB X bp mb n D) (hg : X.grownBy Y row) (hr : ∀ r, row = some r → Bnd ≤ r) (h1 : bp < Bnd) (h2 : mb < Bnd) : MB Y bp mb n D := by
  refine ⟨(hg.block _ (blk_lt h.box) (fun e => by have := hr _ e.symm; omega)).trans h.box, ?_⟩
  obtain ⟨es, clock, g1, g2, g3, g4⟩ := h.own
  exact ⟨es, clock, (hg.block _ (Array.getElem?_eq_some_iff.1 g1).1 (fun e => by have := hr _ e.symm; omega)).trans g1, g2, g3, g4⟩
theorem below_keptR {Bnd n₀ : Nat} {w X Y : World} {row : Option Nat} (h : Below n₀ w X) (hn : n₀ ≤ w.heap.size) (hB : n₀ ≤ Bnd) (hg : X.grownBy Y row) (hr : ∀ r, row = some r → Bnd ≤ r) : Below n₀ w Y :=
  h.grown hg (Nat.le_trans hn h.size) (fun k e => Nat.le_trans hB (hr k e))
theorem EB.keptR {Z X Y : World} {bb Bnd : Nat} {A : Option Addr} {c : Nat} {bs : List Int} {row : Option Nat} (h : EB Z X bb A c bs) (hg : X.grownBy Y row) (hr : ∀ r, row = some r → Bnd ≤ r ∧ ∃ o : Obj, X.heap[r]? = some o ∧ o.isCells = false) (hB : Z.heap.size ≤ Bnd) : EB Z Y bb A c bs :=
  h.other hg.size (fun k cs t fz hk => (hg.block k (Array.getElem?_eq_some_iff.1 hk).1 (fun e => by
    obtain ⟨_, o, ho, hc⟩ := hr k e.symm
    rw [hk] at ho; cases ho; cases hc)).trans hk) (below_keptR h.below (Nat.le_refl _) hB hg (fun r e => (hr r e).1))
/-- Behind a store in the map. -/
theorem EB.mapped {Z Y X : World} {bb bp mb n : Nat} {A : Option Addr} {c : Nat} {bs : List Int} {D : DataW (TypeId × Value)} (h : EB Z Y bb A c bs) (hm : MB Y bp mb n D) (hg : Y.grownBy X (some mb)) (hl : Z.heap.size ≤ mb) : EB Z X bb A c bs :=
  h.other hg.size (fun k cs t fz hk => (hg.block k (Array.getElem?_eq_some_iff.1 hk).1 (fun e => by
    cases e
    obtain ⟨es, clock, g1, _⟩ := hm.own
    rw [hk] at g1; cases g1)).trans hk) (h.below.grown hg h.below.size (fun k e => by cases e; exact hl))
theorem MB.mapped {Y X : World} {bp mb n m : Nat} {D D' : DataW (TypeId × Value)} (hm : MB Y bp mb n D) (hg : Y.grownBy X (some mb)) (ho : X.ownsMap Try.prog 9 (plainElem Try.prog 3) mb m D') : MB X bp mb m D' :=
  ⟨(hg.block _ (blk_lt hm.box) (fun e => by
    cases e
    obtain ⟨es, clock, g1, _⟩ := hm.own
    rw [hm.box] at g1; cases g1)).trans hm.box, ho⟩
/-- The place that a list of strings, from an index on, gives a string; c: the place that it has had. -/
def plcF : List ByteArray → Nat → ByteArray → Int → Int
  | [], _, _, c => c
  | x :: r, i, s, c => plcF r (i + 1) s (if x.data.toList = s.data.toList then (i : Int) else c)
def plc (d : List ByteArray) (s : ByteArray) : Int := plcF d 0 s 0
/-- What is known of the places behind j strings of a dictionary. -/
def PL (d : List ByteArray) (j : Nat) (D : DataW (TypeId × Value)) : Prop := ∀ s : ByteArray, ∃ c : Int, D.atKey (.string s.data.toList) (.lit (.int .i64 0)) = .lit (.int .i64 c) ∧ plcF (d.drop j) j s c = plc d s
theorem PL.start (d : List ByteArray) : PL d 0 (.map []) := fun s => ⟨0, rfl, by rw [List.drop_zero]; rfl⟩
theorem PL.put {d : List ByteArray} {j : Nat} {D : DataW (TypeId × Value)} (h : PL d j D) (hm : IsMap D) {x : ByteArray} {rest : List ByteArray} (hd : d.drop j = x :: rest) (hd2 : d.drop (j + 1) = rest) : PL d (j + 1) (D.put (.string x.data.toList) (.lit (.int .i64 j))) := by
  intro s
  obtain ⟨c, h1, h2⟩ := h s
  rw [hd, plcF] at h2
  rw [hd2]
  by_cases e : x.data.toList = s.data.toList
  · rw [if_pos e] at h2
    refine ⟨j, ?_, h2⟩
    rw [e]
    exact atKey_put_same hm (show WideAt.IsKeyLit (.string s.data.toList) from trivial) _ _
  · rw [if_neg e] at h2
    exact ⟨c, (atKey_put_other (fun he => e (by injection he with he; exact he.symm)) _ _).trans h1, h2⟩
theorem PL.get {d : List ByteArray} {D : DataW (TypeId × Value)} (h : PL d d.length D) (s : ByteArray) : D.atKey (.string s.data.toList) (.lit (.int .i64 0)) = .lit (.int .i64 (plc d s)) := by
  obtain ⟨c, h1, h2⟩ := h s
  rw [List.drop_length, plcF] at h2
  rw [← h2]; exact h1
end Go.Proofs.Ytfklecicddpcjaa.Hand
end
section
namespace Go.Proofs.Ytfklecicddpcjaa.Hand
open Go.RowKit Go.Proofs.YtfklecicddpcjaaW.PrintWords Go.Proofs.YtfklecicddpcjaaW.PrintMore
set_option linter.unusedVariables false
set_option linter.unusedSimpArgs false
theorem infoCS : (Try.prog.info? 9).map (fun i => (i.zero, i.size, i.bytes)) = some (some (.string ByteArray.empty), 1, 16) := by kernel_rfl
def clone_str.f (l0 : List ByteArray) : Option (List ByteArray) := if l0.length < 4398046511104 then some l0 else none
set_option maxRecDepth 100000 in
set_option maxHeartbeats 2000000 in
theorem clone_str.calls (A0 : Option Addr) (c0 : Nat) (l0 r : List ByteArray) (w : World) (hr0 : Kd.C Kd.string w A0 l0.length l0) (hc0 : l0.length ≤ c0) (h : clone_str.f l0 = some r) :
    Calls Try.prog 20 #[.slice A0 l0.length c0] w fun e w' => ∃ v0_ : Value, e = .returned v0_ ∧ Kd.R Kd.string 9 w' w.heap.size (fun _ => True) v0_ r ∧ Below w.heap.size w w' := by
  unfold clone_str.f at h
  split at h
  case isFalse => cases h
  rename_i hlen
  cases h
  cases A0 with
  | none =>
    have hl : l0 = [] := by
      cases l0 with
      | nil => rfl
      | cons x l =>
        obtain ⟨_, _, h3⟩ := hr0
        obtain ⟨ad, h4, _⟩ := h3 (by simp)
        cases h4
    subst hl
    have hnil := fun w => Lib.run_eql_slice_nil (P := Try.prog) w 22 9 none 0 c0 0 0 Try.underlying22
    go_enter Try.func20, Try.ntmps20
    go_wp2
    go_ret
    exact ⟨_, rfl, Kd.R_nil _ _ _ _ _, Below.refl _ _⟩
  | some ad =>
    have hnil := fun w => Lib.run_eql_slice_nil (P := Try.prog) w 22 9 (some ad) l0.length c0 0 0 Try.underlying22
    simp only [Option.isNone_some] at hnil
    have HR := Aside0.mk hr0
    have HL := Aside0.mk hlen
    clear hr0 hlen
    go_enter Try.func20, Try.ntmps20
    go_wp2_with (first | ((with_reducible refine gate_dst (N := 5) rfl ?_); refine Kd.R_lit Kd.string _ 9 ?hg (N := 5) ?hd (xs := ([] : List ByteArray)) (inner := []) (ok := fun _ => True) (okp := fun _ => True) ?hr ?hp (fun _ hk => hk) trivial (Below.refl _ _) (Nat.le_refl _) (by simp) ?_; (case hd => rfl); (case hg => rfl); (case hr => first | (go_simp; done) | (go_simp; rfl)); (case hp => exact (Reps.none _ _)); intro v1 w1 ho1 hb1 hg_ hnew_; clear hg_ hnew_; have HB := Aside0.mk hb1; have HO := Aside0.mk ho1; clear hb1 ho1) | ((with_reducible refine gate_builtin (b := .append) (xs := #[.tmp 5, .tmp 6]) rfl ?_); at_builtin; refine Kd.R_append_rows Kd.string (w0 := w) w.heap.size rfl (.tmp 5) (.tmp 6) 22 9 (.string ByteArray.empty) 16 rfl Try.underlying22 infoCS rfl (by decide) (by omega) v1 [] l0 _ _ _ (fun k_ => True) (fun _ => False) rfl rfl ?aO ?aR (fun _ _ h => h) (fun _ h => h.elim) ?aF ?aB ?aS ?aL ?_; (case aR => exact Kd.C_below HR.out HB.out); (case aB => exact HB.out); (case aF => exact (fun _ _ => trivial)); (case aO => exact Kd.R_mono HO.out (fun _ _ => trivial)); (case aS => exact HB.out.size); (case aL => have := HL.out; simp; omega); intro v2 w2 ho hb hg hat; simp only [List.nil_append] at ho; have HO2 := Aside0.mk ho; have HB2 := Aside0.mk hb; clear ho hb hg hat))
    go_ret
    exact ⟨_, rfl, HO2.out, HB2.out⟩
end Go.Proofs.Ytfklecicddpcjaa.Hand
end
section
namespace Go.Proofs.Ytfklecicddpcjaa.Hand
open Go.RowKit Go.Lib Go.Sort Go.Proofs.YtfklecicddpcjaaW.PrintWords Go.Proofs.YtfklecicddpcjaaW.PrintMore
set_option linter.unusedVariables false
set_option linter.unusedSimpArgs false
def bys (l : List UInt8) : ByteArray := ⟨⟨l⟩⟩
def ubs (l : List ByteArray) : List (List UInt8) := l.map (·.data.toList)
theorem bys_ubs (l : List ByteArray) : (ubs l).map bys = l := by
  unfold ubs
  rw [List.map_map]
  conv => rhs; rw [← List.map_id l]
  apply List.map_congr_left
  intro x _
  rfl
theorem setCells_grownS (w : World) (g o : Nat) (vs : List Value) : w.grownBy (w.setCells g o vs) (some g) := by
  obtain ⟨h1, h2, h3, h4⟩ := setCells_same g vs o w
  exact ⟨h1, h2, h3, by rw [h4]; exact Nat.le_refl _, fun k _ hne => setCells_far vs o k (fun e => hne (by rw [e]))⟩
/-- A row of strings, as its block tells it. -/
theorem R_strs {e base : Nat} {ok : Nat → Prop} {w : World} {v : Value} {l : List ByteArray} (h : Kd.string.R e w base ok v l) :
    (v = .slice none 0 0 ∧ l = []) ∨ ∃ g cap cur, v = .slice (some ⟨g, 0, none⟩) l.length cap ∧ base ≤ g ∧ w.heap[g]? = some (.cells cur e (0, 0)) ∧ l.length ≤ cap ∧ cap ≤ maxLen ∧ cur.size = cap ∧ cur.toList.take l.length = l.map Value.string ∧ ok g := by
  obtain ⟨h0, inner, ho, hr⟩ := h
  have hin : inner = l.map Value.string := by
    have h1 : inner.length = l.length := by have := hr.1; simpa [Kd.string, Kd.scalar] using this
    apply List.ext_getElem (by simpa using h1)
    intro j hj _
    have h2 := hr.2 j l[j] (List.getElem?_eq_getElem (by omega))
    have h3 : (inner.drop (j * 1)).take 1 = [Value.string l[j]] := h2
    rw [Nat.mul_one, List.drop_eq_getElem_cons hj] at h3
    simp only [List.take_succ_cons, List.take_zero, List.cons.injEq, and_true] at h3
    rw [h3, List.getElem_map]
  subst hin
  rcases ho.2 with ⟨hv, hn⟩ | ⟨g, cap, cur, hv, hb, hh, hn, hm, hs, ht⟩
  · exact .inl ⟨hv, List.eq_nil_of_length_eq_zero hn⟩
  · refine .inr ⟨g, cap, cur, hv, hb, hh, hn, hm, ?_, ?_, h0 g (by rw [hv]; rfl)⟩
    · simpa [Kd.string, Kd.scalar] using hs
    · simpa [Kd.string, Kd.scalar] using ht
theorem Reps_strs {w : World} {base : Nat} {ok : Nat → Prop} : ∀ l : List ByteArray, Reps (Kd.string.M w base ok) 1 l (l.map Value.string)
  | [] => Reps.none _ _
  | x :: l => Reps.one rfl (Reps_strs l)
theorem strs_R {e base : Nat} {ok : Nat → Prop} {w : World} {g cap : Nat} {cur : Array Value} {l : List ByteArray} (hb : base ≤ g) (hh : w.heap[g]? = some (.cells cur e (0, 0))) (hn : l.length ≤ cap) (hm : cap ≤ maxLen) (hs : cur.size = cap) (ht : cur.toList.take l.length = l.map Value.string) (ho : ok g) :
    Kd.string.R e w base ok (.slice (some ⟨g, 0, none⟩) l.length cap) l :=
  ⟨fun k hk => by simp only [Value.ownBlock, Option.some.injEq] at hk; subst hk; exact ho, l.map Value.string, ⟨by simp [Kd.string, Kd.scalar], .inr ⟨g, cap, cur, rfl, hb, hh, hn, hm, by simpa [Kd.string, Kd.scalar] using hs, by simpa [Kd.string, Kd.scalar] using ht⟩⟩, Reps_strs l⟩
theorem strs_holds {w : World} {g : Nat} {e : Nat} {cur : Array Value} {l : List ByteArray} (hh : w.heap[g]? = some (.cells cur e (0, 0))) (ht : cur.toList.take l.length = l.map Value.string) : Holds encStr w g 0 (ubs l).toArray := by
  have h := holds_of_strings (w := w) (b := g) (off := 0) (n := l.length) (ss := l) (Nat.le_refl _) (fun j hj => by
    rw [Nat.zero_add, blk_cell hh j, ← Array.getElem?_toList]
    have h1 : (cur.toList.take l.length)[j]? = some (Value.string l[j]) := by rw [ht]; simp [hj]
    rw [List.getElem?_take, if_pos hj] at h1
    rw [h1, List.getD_eq_getElem?_getD, List.getElem?_eq_getElem hj]
    rfl) (fun j _ => blk_frozen hh _)
  rw [List.take_length] at h
  exact h
/-- What a rewrite of the row's cells leaves. -/
theorem put_R {e base cap : Nat} {ok : Nat → Prop} {w : World} {g : Nat} {cur : Array Value} {l : List ByteArray} (q : Nat) (os : Array Obj) (hb : base ≤ g) (hh : w.heap[g]? = some (.cells cur e (0, 0))) (hn : l.length ≤ cap) (hm : cap ≤ maxLen) (hs : cur.size = cap) (ht : cur.toList.take l.length = l.map Value.string) (ho : ok g) (ys : List (List UInt8)) (hy : ys.length = l.length) :
    Kd.string.R e (grow (putRow encStr (Sort.ahead w q) g 0 ys.toArray) os) base ok (.slice (some ⟨g, 0, none⟩) l.length cap) (ys.map bys) ∧ w.grownBy (grow (putRow encStr (Sort.ahead w q) g 0 ys.toArray) os) (some g) := by
  rw [putRow_eq_setCells encStr w g 0 (ubs l).toArray ys q (strs_holds hh ht) (by simp [ubs, hy])]
  have hhq : (w.drewN q).heap[g]? = some (.cells cur e (0, 0)) := hh
  obtain ⟨cur2, m1, m2, m3⟩ := setCells_row (ys.map encStr) 0 (w.drewN q) cur hhq (by simp; omega)
  have hG : w.grownBy ((w.drewN q).setCells g 0 (ys.map encStr)) (some g) := by
    obtain ⟨a, b, c, d, f⟩ := setCells_grownS (w.drewN q) g 0 (ys.map encStr)
    exact ⟨a, b, c, d, f⟩
  obtain ⟨W, hW⟩ : ∃ W, W = (w.drewN q).setCells g 0 (ys.map encStr) := ⟨_, rfl⟩
  rw [← hW] at m1 hG ⊢
  have hsz := hG.size
  have hlt : g < W.heap.size := blk_lt m1
  have hgrow : ∀ k, k < W.heap.size → (grow W os).heap[k]? = W.heap[k]? := fun k hk => by
    show (W.heap ++ os)[k]? = W.heap[k]?
    rw [Array.getElem?_append_left hk]
  constructor
  · have e1 : (ys.map bys).length = l.length := by simp [hy]
    have h := strs_R (l := ys.map bys) (ok := ok) hb ((hgrow g hlt).trans m1) (by omega) hm (by omega) (by
      rw [m3, e1]
      simp only [List.take_zero, List.nil_append, Nat.zero_add]
      rw [List.take_append_of_le_length (by simp [hy]), List.take_of_length_le (by simp [hy]), List.map_map]
      rfl) ho
    rw [e1] at h
    exact h
  · exact ⟨hG.os, hG.tape, hG.output, by show w.heap.size ≤ (W.heap ++ os).size; rw [Array.size_append]; omega, fun k hk hne => (hgrow k (by omega)).trans (hG.block k hk hne)⟩
def sortB (l : List ByteArray) : List ByteArray := ((ubs l).mergeSort fun x y => decide (x ≤ y)).map bys
theorem sort_str.calls {e base : Nat} {ok : Nat → Prop} {w : World} {v : Value} {l : List ByteArray} (h : Kd.string.R e w base ok v l) (hl : l.length < 4611686018427387904) (h0 : v ≠ .slice none 0 0) :
    Calls Try.prog 35 #[v] w fun en w' => en = .returned (.tuple #[]) ∧ Kd.string.R e w' base ok v (sortB l) ∧ w.grownBy w' v.ownBlock := by
  rcases R_strs h with ⟨rfl, rfl⟩ | ⟨g, cap, cur, rfl, hb, hh, hn, hm, hs, ht, ho⟩
  · exact absurd rfl h0
  · have hu : (ubs l).length = l.length := by simp [ubs]
    have C := Try.slices_Sort_string g 0 cap (ubs l) w (strs_holds hh ht) (blk_lt hh) (by omega)
    rw [hu] at C
    refine C.mono ?_
    rintro en w' ⟨rfl, q, os, rfl⟩
    have hp := put_R (ok := ok) q os hb hh hn hm hs ht ho ((ubs l).mergeSort fun x y => decide (x ≤ y)) (by rw [List.length_mergeSort]; exact hu)
    exact ⟨rfl, hp.1, hp.2⟩
theorem reverse_str.calls {e base : Nat} {ok : Nat → Prop} {w : World} {v : Value} {l : List ByteArray} (h : Kd.string.R e w base ok v l) :
    Calls Try.prog 29 #[v] w fun en w' => en = .returned (.tuple #[]) ∧ Kd.string.R e w' base ok v l.reverse ∧ w.grownBy w' v.ownBlock := by
  rcases R_strs h with ⟨rfl, rfl⟩ | ⟨g, cap, cur, rfl, hb, hh, hn, hm, hs, ht, ho⟩
  · refine (Try.slices_Reverse_string_empty none 0 w).mono ?_
    rintro en w' ⟨rfl, rfl⟩
    exact ⟨rfl, h, World.grownBy.refl _ _⟩
  · have hu : (ubs l).length = l.length := by simp [ubs]
    have hmx : maxLen = 9223372036854775807 := rfl
    have C := Try.slices_Reverse_string g 0 cap (ubs l) w (strs_holds hh ht) (by omega)
    rw [hu] at C
    refine C.mono ?_
    rintro en w' ⟨rfl, q, rfl⟩
    have hp := put_R (ok := ok) q #[] hb hh hn hm hs ht ho (ubs l).reverse (by rw [List.length_reverse]; exact hu)
    rw [grow_empty, List.map_reverse, bys_ubs] at hp
    exact ⟨rfl, hp.1, hp.2⟩
def compB (l : List ByteArray) : List ByteArray := (Lib.compact (ubs l)).map bys
theorem compact_str.calls {e base : Nat} {ok : Nat → Prop} {w : World} {v : Value} {l : List ByteArray} (h : Kd.string.R e w base ok v l) :
    Calls Try.prog 36 #[v] w fun en w' => ∃ v', en = .returned v' ∧ Kd.string.R e w' base ok v' (compB l) ∧ w.grownBy w' v.ownBlock ∧ v'.ownBlock = v.ownBlock := by
  rcases R_strs h with ⟨rfl, rfl⟩ | ⟨g, cap, cur, rfl, hb, hh, hn, hm, hs, ht, ho⟩
  · refine (Try.slices_Compact_string_empty none 0 w).mono ?_
    rintro en w' ⟨rfl, rfl⟩
    have e0 : compB [] = [] := by
      unfold compB
      rw [List.map_eq_nil_iff]
      exact List.eq_nil_of_length_eq_zero (Nat.le_zero.1 (Lib.compact_length_le _))
    exact ⟨_, rfl, by rw [e0]; exact h, World.grownBy.refl _ _, rfl⟩
  · have hu : (ubs l).length = l.length := by simp [ubs]
    have hmx : maxLen = 9223372036854775807 := rfl
    have hcl := Lib.compact_length_le (ubs l)
    have C := Try.slices_Compact_string g 0 cap (ubs l) w (strs_holds hh ht) (by omega) (by omega)
    have hp := fun q => put_R (ok := ok) q #[] hb hh hn hm hs ht ho (Lib.compact (ubs l) ++ List.replicate ((ubs l).length - (Lib.compact (ubs l)).length) []) (by rw [List.length_append, List.length_replicate]; omega)
    rw [hu] at C
    refine C.mono ?_
    rintro en w' ⟨rfl, q, rfl⟩
    have hq := hp q
    rw [grow_empty, hu] at hq
    refine ⟨_, rfl, ?_, hq.2, rfl⟩
    have ht := Kd.R_take hq.1 (m := (Lib.compact (ubs l)).length) (by simp)
    rw [List.map_append, List.take_append_of_le_length (by simp), List.take_of_length_le (by simp)] at ht
    exact ht
set_option maxRecDepth 100000 in
set_option maxHeartbeats 2000000 in
theorem ins_nil (w : World) : Calls Try.prog 73 #[.slice none 0 0, .int .i64 0, .int .i64 0] w fun en w' => en = .returned (.tuple #[]) ∧ w' = w := by
  go_enter Try.func73, Try.ntmps73
  go_wp2
  go_loopg [6] 0 (fun k s6 wr => s6 = .int .i64 1 ∧ wr = w)
  case atStart => exact ⟨rfl, rfl⟩
  case round =>
    obtain ⟨rfl, rfl⟩ := hrel
    go_wp2
    go_end0
    exact ⟨rfl, rfl⟩
set_option maxRecDepth 100000 in
set_option maxHeartbeats 2000000 in
theorem pdq_nil (w : World) : Calls Try.prog 54 #[.slice none 0 0, .int .i64 0, .int .i64 0, .int .i64 0] w fun en w' => en = .returned (.tuple #[]) ∧ w' = w := by
  go_enter Try.func54, Try.ntmps54
  go_wp2
  go_loopg [1, 2, 3] 0 (fun k s1 s2 s3 wr => s1 = .int .i64 0 ∧ s2 = .int .i64 0 ∧ s3 = .int .i64 0 ∧ wr = w)
  case atStart => exact ⟨rfl, rfl, rfl, rfl⟩
  case round =>
    obtain ⟨rfl, rfl, rfl, rfl⟩ := hrel
    go_wp2_with (go_at_call 73; refine (ins_nil _).mono ?_; rintro en w' ⟨rfl, rfl⟩)
    refine bodyPost_ret (results_none rfl _ _ _) rfl ?_
    exact ⟨rfl, rfl⟩
set_option maxRecDepth 100000 in
set_option maxHeartbeats 2000000 in
theorem sort_nil (w : World) : Calls Try.prog 35 #[.slice none 0 0] w fun en w' => en = .returned (.tuple #[]) ∧ w' = w := by
  have hb : (Lib.bitLen (0 : Int).toNat : Int) = 0 := by decide
  go_enter Try.func35, Try.ntmps35
  go_wp2_with (first | (go_at_call 51; refine (Try.bits_Len 0 _ (by omega) (by omega)).mono ?_; rintro en w' ⟨rfl, rfl⟩; rw [hb]) | (go_at_call 54; refine (pdq_nil _).mono ?_; rintro en w' ⟨rfl, rfl⟩))
  go_end0
  exact ⟨rfl, rfl⟩
theorem sort_own.calls {e base : Nat} {ok : Nat → Prop} {w : World} {v : Value} {l : List ByteArray} (h : Kd.string.R e w base ok v l) (hl : l.length < 4611686018427387904) :
    Calls Try.prog 35 #[v] w fun en w' => en = .returned (.tuple #[]) ∧ Kd.string.R e w' base ok v (sortB l) ∧ w.grownBy w' v.ownBlock := by
  rcases R_strs h with ⟨rfl, rfl⟩ | ⟨g, cap, cur, hv, _⟩
  · refine (sort_nil w).mono ?_
    rintro en w' ⟨rfl, rfl⟩
    have e0 : sortB [] = [] := by simp [sortB, ubs]
    exact ⟨rfl, by rw [e0]; exact h, World.grownBy.refl _ _⟩
  · exact sort_str.calls h hl (by rw [hv]; intro hh; cases hh)
end Go.Proofs.Ytfklecicddpcjaa.Hand
end
section
namespace Go.Proofs.Ytfklecicddpcjaa.Hand
open Go.RowKit Go.Shelf Go.Maps Go.Proofs.YtfklecicddpcjaaW.PrintWords Go.Proofs.YtfklecicddpcjaaW.PrintMore Go.Proofs.Ytfklecicddpcjaa.Seq Go.Proofs.Ytfklecicddpcjaa.A
attribute [local go_sem] Oper.semAt_some
set_option linter.unusedVariables false
set_option linter.unusedSimpArgs false
def dictG (k : Nat) : List ByteArray → ByteArray → List Int → Option (List Int)
  | [], _, b => some b
  | s :: r, bef, b => (dictcol_common.f k bef s).bind fun c => (dictcol_appendNumber.f k b c).bind fun b1 => (dictcol_appendNumber.f k b1 (wrap64 ((s.size : Int) - c))).bind fun b2 => if 0 ≤ c ∧ c ≤ (s.size : Int) ∧ b2.length + s.size ≤ 140737488355328 then dictG k r s (b2 ++ bytesOf (s.extract c.toNat s.size)) else none
def runsG (k : Nat) (d : List ByteArray) : List (ByteArray × Int) → List Int → Option (List Int)
  | [], b => some b
  | p :: r, b => if p.1.size ≤ 140737488355328 then ((dictcol_appendNumber.f k b (plc d p.1)).bind fun b1 => (dictcol_appendNumber.f k b1 (wrap64 (p.2 - 1))).bind fun b2 => runsG k d r b2) else none
def encG (k : Nat) (l d : List ByteArray) : Option (List Int) := (dictcol_appendNumber.f k [] l.length).bind fun b0 => (dictcol_appendNumber.f k b0 d.length).bind fun b1 => (dictG k d ⟨#[]⟩ b1).bind fun b2 => runsG k d (runL l) b2
def dictcol_Encode.f (k : Nat) (l0 : List ByteArray) : Option (ByteArray × Int) := (dictcol_isColumn.f l0).bind fun q => if q = true then (if l0.length < 4398046511104 then ((encG k l0 (compB (sortB l0))).bind fun b3 => if (b3.length : Int) > 1048576 then some (⟨#[]⟩, 4) else some (strOfNums b3, 0)) else none) else some (⟨#[]⟩, 4)
theorem dictG_mono : ∀ (d : List ByteArray) (bef : ByteArray) (b : List Int) (k : Nat), LeO (dictG k d bef b) (dictG (k + 1) d bef b)
  | [], _, _, _ => LeO.refl _
  | s :: r, bef, b, k => LeO.bind (dictcol_common.mono _ _ _) (fun c => LeO.bind (dictcol_appendNumber.mono _ _ _) (fun b1 => LeO.bind (dictcol_appendNumber.mono _ _ _) (fun b2 => by
      split
      · exact dictG_mono r s _ k
      · exact LeO.refl _)))
theorem runsG_mono (d : List ByteArray) : ∀ (l : List (ByteArray × Int)) (b : List Int) (k : Nat), LeO (runsG k d l b) (runsG (k + 1) d l b)
  | [], _, _ => LeO.refl _
  | p :: r, b, k => by
    rw [runsG, runsG]
    split
    · exact LeO.bind (dictcol_appendNumber.mono _ _ _) (fun b1 => LeO.bind (dictcol_appendNumber.mono _ _ _) (fun b2 => runsG_mono d r b2 k))
    · exact LeO.refl _
theorem encG_mono (l d : List ByteArray) (k : Nat) : LeO (encG k l d) (encG (k + 1) l d) :=
  LeO.bind (dictcol_appendNumber.mono _ _ _) (fun b0 => LeO.bind (dictcol_appendNumber.mono _ _ _) (fun b1 => LeO.bind (dictG_mono _ _ _ _) (fun b2 => runsG_mono _ _ _ _)))
theorem dictcol_Encode.mono : ∀ a0 k, LeO (dictcol_Encode.f k a0) (dictcol_Encode.f (k + 1) a0) := by
  intro a0 k
  unfold dictcol_Encode.f
  refine LeO.bind (LeO.refl _) (fun q => ?_)
  split
  · split
    · exact LeO.bind (encG_mono _ _ _) (fun b => LeO.refl _)
    · exact LeO.refl _
  · exact LeO.refl _
set_option maxHeartbeats 1000000 in
theorem runs_in (n : Nat) (A : Option Addr) (m c : Nat) (w : World) :
    CallsIn Fence.wide n Try.prog 39 #[.slice A m c] w fun e w' => e = .returned (.func (.func 56) #[] #[.pointer (some ⟨w.heap.size, 0, none⟩)]) ∧ w' = w.alloc (.cells #[.slice A m c] 22) := by
  refine callsIn_of_wp Try.func39 rfl trivial ?_ rfl
  simp only [Try.ntmps39, List.size_toArray, List.length_cons, List.length_nil, Nat.reduceAdd, Nat.reduceSub, Array.replicate_succ, Array.replicate_zero, List.push_toArray, List.append_toArray, List.nil_append, List.cons_append]
  gi_wp2
  go_ret
  exact ⟨rfl, rfl⟩
set_option maxRecDepth 100000 in
set_option maxHeartbeats 8000000 in
theorem dictcol_Encode.calls (k : Nat) (A0 : Option Addr) (c0 : Nat) (l0 : List ByteArray) (r1 : ByteArray) (r2 : Int) (w : World) (hr0 : Kd.C Kd.string w A0 l0.length l0) (hc0 : l0.length ≤ c0) (h : dictcol_Encode.f k l0 = some (r1, r2)) :
    Calls Try.prog 13 #[.slice A0 l0.length c0] w fun e w' => e = .returned (.tuple #[.string r1, .int .i64 r2]) ∧ Below w.heap.size w w' := by
  unfold dictcol_Encode.f at h
  obtain ⟨q, hq, h1⟩ := Option.bind_eq_some_iff.1 h
  clear h
  have hmm := @run_makeMap Try.prog
  have HR0 := Aside0.mk hr0
  have HC0 := Aside0.mk hc0
  have HQ := Aside0.mk hq
  clear hr0 hc0 hq
  refine (callsIn_wide (n := 4)).1 ?_
  refine callsIn_of_wp_marks Try.func13 rfl trivial ?_ rfl
  simp only [Try.ntmps13, List.size_toArray, List.length_cons, List.length_nil, Nat.reduceAdd, Nat.reduceSub, Array.replicate_succ, Array.replicate_zero, List.push_toArray, List.append_toArray, List.nil_append, List.cons_append]
  by_cases c1 : q = true
  · subst c1
    rw [if_pos rfl] at h1
    split at h1
    case isFalse => cases h1
    rename_i hlen
    obtain ⟨b3, hb3, h2⟩ := Option.bind_eq_some_iff.1 h1
    clear h1
    unfold encG at hb3
    obtain ⟨x0, hx0, hb4⟩ := Option.bind_eq_some_iff.1 hb3
    clear hb3
    obtain ⟨x1, hx1, hb5⟩ := Option.bind_eq_some_iff.1 hb4
    clear hb4
    obtain ⟨x2, hx2, hx3⟩ := Option.bind_eq_some_iff.1 hb5
    clear hb5
    have HL := Aside0.mk hlen
    have H2 := Aside0.mk h2
    have HX0 := Aside0.mk hx0
    have HX1 := Aside0.mk hx1
    have HX2 := Aside0.mk hx2
    have HX3 := Aside0.mk hx3
    clear hlen h2 hx0 hx1 hx2 hx3
    gi_wp2_with fail
    refine ⟨trivial, (callsIn_wide.2 (dictcol_isColumn.calls A0 c0 l0 true w HR0.out HC0.out HQ.out)).mono ?_⟩
    rintro e W1 ⟨rfl, ⟨m1, rfl⟩⟩
    gi_wp2_with fail
    refine ⟨trivial, (callsIn_wide.2 (clone_str.calls A0 c0 l0 l0 _ (Kd.C_drewN HR0.out m1) HC0.out (if_pos HL.out))).mono ?_⟩
    rintro e W2 ⟨v2, rfl, hR2, hB2⟩
    have B2 := Aside0.mk (show Below w.heap.size w W2 from (pw_below_drewN (Below.refl w.heap.size w) m1).trans hB2)
    have R2 := Aside0.mk (show Kd.R Kd.string 9 W2 w.heap.size (fun _ => True) v2 l0 from hR2)
    clear hR2 hB2
    gi_wp2_with fail
    refine ⟨trivial, (callsIn_wide.2 (sort_own.calls R2.out (by have := HL.out; omega))).mono ?_⟩
    rintro e W3 ⟨rfl, hR3, hG3⟩
    have B3 := Aside0.mk (B2.out.grown hG3 B2.out.size (fun k hk => Kd.R_base R2.out k hk))
    have R3 := Aside0.mk hR3
    clear hR3 hG3 B2 R2
    gi_wp2_with fail
    refine ⟨trivial, (callsIn_wide.2 (compact_str.calls R3.out)).mono ?_⟩
    rintro e W4 ⟨v4, rfl, hR4, hG4, _⟩
    have B4 := Aside0.mk (B3.out.grown hG4 B3.out.size (fun k hk => Kd.R_base R3.out k hk))
    obtain ⟨A4, c4, rfl, hc4, hC4⟩ := Kd.R_reads hR4
    have C4 := Aside0.mk hC4
    have L4 := Aside0.mk hc4
    clear hR4 hG4 B3 R3 hC4 hc4
    generalize hd : compB (sortB l0) = d at HX1 HX2 HX3 C4 L4
    try rw [hd]
    clear hd
    gi_wp2_with fail
    refine ⟨trivial, (callsIn_wide.2 (dictcol_appendNumber.calls k (fun _ => True) (.slice none 0 0) [] _ x0 W4 W4 (Below.refl _ _) (Kd.R_nil _ _ _ _ _) HX0.out)).mono ?_⟩
    rintro e W5 ⟨v5, rfl, hR5, hB5, _⟩
    obtain ⟨A5, c5, rfl, _⟩ := Kd.R_reads hR5
    have R5 := Aside0.mk hR5
    have B5 := Aside0.mk hB5
    clear hR5 hB5 HX0
    have E6 : Aside0 (EB W4 (W5.alloc (.cells #[.slice A5 x0.length c5] 48)) W5.heap.size A5 c5 x0) := ⟨⟨World.alloc_heap_new _ _, Kd.R_mono (Kd.R_bound (Kd.R_alloc R5.out _)) (fun k hk => hk.2.1), B5.out.size, B5.out.alloc B5.out.size _⟩⟩
    obtain ⟨W6, hW6⟩ : ∃ W6, W6 = W5.alloc (.cells #[.slice A5 x0.length c5] 48) := ⟨_, rfl⟩
    obtain ⟨bb, hbb⟩ : ∃ bb, bb = W5.heap.size := ⟨_, rfl⟩
    rw [← hW6, ← hbb] at E6
    gi_wp2_with fail
    rw [← hW6, ← hbb]
    clear hW6 hbb B5 R5
    refine ⟨trivial, (callsIn_wide.2 (E6.out.num HX1.out)).mono ?_⟩
    rintro e W7 ⟨A7, c7, rfl, h7⟩
    have H7 := Aside0.mk h7
    have y7 := h7.fro
    obtain ⟨u7, z7⟩ := h7.cel
    clear h7 HX1
    gi_wp2_with fail
    obtain ⟨W8, hW8⟩ : ∃ W8, W8 = ((W7.setCell ⟨bb, 0, none⟩ (.slice A7 x1.length c7)).alloc (.map #[] 0)).alloc (.cells #[.map (some W7.heap.size)] 50) := ⟨_, rfl⟩
    obtain ⟨bp, hbp⟩ : ∃ bp, bp = W7.heap.size + 1 := ⟨_, rfl⟩
    obtain ⟨mb, hmb⟩ : ∃ mb, mb = W7.heap.size := ⟨_, rfl⟩
    have M8 : Aside0 (MB W8 bp mb 0 (.map [])) := ⟨by
      have h := MB.made (W7.setCell ⟨bb, 0, none⟩ (.slice A7 x1.length c7))
      rw [show (W7.setCell ⟨bb, 0, none⟩ (.slice A7 x1.length c7)).heap.size = W7.heap.size by simp [World.setCell]] at h
      rw [hW8, hbp, hmb]; exact h⟩
    have HMB : Aside0 (W4.heap.size ≤ mb) := ⟨by have := H7.out.next.below.size; simp [World.setCell] at this; omega⟩
    have E8 : Aside0 (EB W4 W8 bb A7 c7 x1) := ⟨by rw [hW8]; exact (H7.out.next.alloc _).alloc _⟩
    rw [← hW8, ← hbp]
    clear hW8 hbp hmb H7 y7 z7 E6
    refine wpIn_wide.2 ?_
    go_loopw [7, 32] (fun v7 v32 wr => ∃ (j : Nat) (bef : ByteArray) (acc : List Int) (A : Option Addr) (c : Nat) (D : DataW (TypeId × Value)), j ≤ d.length ∧ v7 = .string bef ∧ v32 = .int .i64 j ∧ Aside0 (dictG k (d.drop j) bef acc = some x2) ∧ Aside0 (EB W4 wr bb A c acc) ∧ Aside0 (MB wr bp mb j D) ∧ Aside0 (PL d j D))
      (fun _ v32 _ => d.length - (intOf v32).toNat)
    case atStart => exact ⟨0, ⟨#[]⟩, x1, A7, c7, _, Nat.zero_le _, rfl, rfl, HX2, E8, M8, ⟨PL.start d⟩⟩
    case round =>
      obtain ⟨j, bef, acc, A, c, D, hj, rfl, rfl, HE, E, M, P⟩ := hrel
      clear E8 M8 HX2
      by_cases cj : j < d.length
      · have tj : decide (j < d.length) = true := decide_eq_true cj
        obtain ⟨ad, rfl, q0⟩ := Kd.at_string (Kd.C_below C4.out E.out.below) (j : Int) (by omega) (by omega)
        simp only [Int.toNat_natCast] at q0
        have hE := HE.out
        clear HE
        rw [drop_rd cj, dictG] at hE
        obtain ⟨y0, hy0, hE1⟩ := Option.bind_eq_some_iff.1 hE
        clear hE
        obtain ⟨y1, hy1, hE2⟩ := Option.bind_eq_some_iff.1 hE1
        clear hE1
        obtain ⟨y2, hy2, hE3⟩ := Option.bind_eq_some_iff.1 hE2
        clear hE2
        split at hE3
        case isFalse => cases hE3
        rename_i hcond
        obtain ⟨hc0', hc1', hc2'⟩ := hcond
        have HY0 := Aside0.mk hy0
        have HY1 := Aside0.mk hy1
        have HY2 := Aside0.mk hy2
        have HEE := Aside0.mk hE3
        have HC2 := Aside0.mk hc2'
        clear hy0 hy1 hy2 hE3 hc2'
        have z0 := E.out.cell
        have zp := M.out.cell
        have mx : d.length ≤ 9223372036854775807 := C4.out.2.1
        obtain ⟨s, hs⟩ : ∃ s, s = rdS d (j : Int) := ⟨_, rfl⟩
        rw [← hs] at HY0 HY2 HEE HC2 hc1'
        have hs' : s = rdOf ByteArray.empty d (j : Int) := hs
        rw [← hs'] at q0
        clear hs'
        have HS := Aside0.mk hs
        clear hs
        go_wp2_with fail
        refine (dictcol_common.calls k bef s y0 wr HY0.out).mono ?_
        rintro e X1 ⟨rfl, ⟨m2, rfl⟩⟩
        clear HY0 q0
        go_wp2_with fail
        refine ((E.out.drewN m2).num HY1.out).mono ?_
        rintro e X2 ⟨A2, c2, rfl, n2⟩
        have N2 := Aside0.mk n2
        have y2f := n2.fro
        obtain ⟨u2, z2⟩ := n2.cel
        clear n2 z0 HY1
        go_wp2_with fail
        refine (N2.out.next.num HY2.out).mono ?_
        rintro e X3 ⟨A3, c3, rfl, n3⟩
        have N3 := Aside0.mk n3
        have y3f := n3.fro
        obtain ⟨u3, z3⟩ := n3.cel
        clear n3 HY2 y2f z2 u2
        go_wp2_with fail
        obtain ⟨X4, hX4⟩ : ∃ X4, X4 = X3.setCell ⟨bb, 0, none⟩ (.slice A3 y2.length c3) := ⟨_, rfl⟩
        have E4 : Aside0 (EB W4 X4 bb A3 c3 y2) := ⟨by rw [hX4]; exact N3.out.next⟩
        have K4 : Okp bb wr X4 := by rw [hX4]; exact ((Okp.refl bb wr).drewN m2).trans (N2.out.okp.trans N3.out.okp)
        have M4 : Aside0 (MB X4 bp mb j D) := ⟨M.out.okp E.out.box K4⟩
        rw [← hX4]
        clear hX4 K4 N3 N2 y3f z3 u3
        have z4 := E4.out.cell
        go_still_tail 4, (by kernel_rfl)
        refine print_append_str (w0 := W4) W4.heap.size rfl (.tmp 49) (.tmp 52) 48 9 5 rfl Try.underlying48 Try.underlying9 infoB (.slice A3 y2.length c3) y2 (s.extract y0.toNat s.size) rfl rfl ?aO ?aB ?aS ?aL ?_
        case aB => exact E4.out.below.drew
        case aO => exact Kd.own_of_R E4.out.drew.row
        case aS => exact E4.out.below.size
        case aL =>
          have h_ := HC2.out
          simp only [ByteArray.size_extract]
          omega
        intro v5 X5 hown5 hb5 hg5
        obtain ⟨y5, hy5⟩ : ∃ y5 : List Int, y5 = y2 ++ bytesOf (s.extract y0.toNat s.size) := ⟨_, rfl⟩
        rw [← hy5] at hown5 HEE
        clear hy5
        have hR5 := Kd.R_bound (Kd.R_of_own (h1 := fun _ => rfl) hown5 (ok := fun _ => True) (fun _ _ => trivial))
        obtain ⟨A5', c5', rfl, _⟩ := Kd.R_reads hR5
        have n5 := E4.out.drew.step (W' := X5) (A' := A5') (c' := c5') hg5.size hg5.block (Kd.R_mono hR5 (fun k hk => hk.2.1)) hb5
        have N5 := Aside0.mk n5
        have y5f := n5.fro
        obtain ⟨u5, z5⟩ := n5.cel
        have M5 : Aside0 (MB (X5.setCell ⟨bb, 0, none⟩ (.slice A5' y5.length c5')) bp mb j D) := ⟨M4.out.okp E4.out.box (show Okp bb X4 _ from ⟨n5.okp.size, n5.okp.same⟩)⟩
        have z5p := M5.out.cell
        have hsl : s.size ≤ maxLen := by have h_ := HC2.out; unfold maxLen; omega
        have hkey := Go.WideMaps.keyOf_string_mk Try.underlying9 hsl
        have HK := Aside0.mk hkey
        clear hown5 hb5 hg5 hR5 n5 z4 hkey hsl
        go_wp2_with (at_mapUpdate; refine wpList_mapUpdate_own _ rfl _ _ _ 50 rfl 9 3 lawS Try.underlying50 _ mb j D rfl M5.out.own ?bM (.string s) (.int .i64 j) (.string s.data.toList) rfl rfl HK.out (.lit (.int .i64 j)) [] (plainElem_int Try.underlying3 ?bW) ?_; (case bM => unfold maxLen; omega); (case bW => exact WalkArith.wf_i64 (by omega)); intro X6 hown6 hg6; have O6 := Aside0.mk hown6; have G6 := Aside0.mk hg6; clear hown6 hg6)
        have hE6 := N5.out.next.mapped M5.out G6.out HMB.out
        have hM6 := M5.out.mapped G6.out O6.out
        have hP6 := P.out.put M.out.own.isMap (drop_rd cj) rfl
        rw [← HS.out] at hP6
        go_roundw
        case rel => exact ⟨j + 1, s, y5, A5', c5', _, by omega, rfl, by go_num, HEE, ⟨hE6⟩, ⟨hM6⟩, ⟨hP6⟩⟩
        case measure => simp [intOf]; omega
      · have tj : decide (j < d.length) = false := decide_eq_false cj
        obtain rfl : j = d.length := by omega
        have hE := HE.out
        clear HE
        rw [List.drop_length, dictG] at hE
        cases hE
        go_wp2
        gi_wp2_with fail
        refine ⟨trivial, (runs_in _ _ _ _ _).mono ?_⟩
        rintro e X7 ⟨rfl, rfl⟩
        obtain ⟨W9, hW9⟩ : ∃ W9, W9 = wr.alloc (.cells #[.slice A0 l0.length c0] 22) := ⟨_, rfl⟩
        obtain ⟨bx, hbx⟩ : ∃ bx, bx = wr.heap.size := ⟨_, rfl⟩
        have BW : Below w.heap.size w wr := B4.out.trans (E.out.below.mono B4.out.size)
        have B9 : Below w.heap.size w W9 := by rw [hW9]; exact BW.alloc BW.size _
        have R9 : RunAt W9 w bx A0 c0 l0 := ⟨by rw [hW9, hbx]; exact Boxed.new wr _ _, fun k hk => B9.block k hk⟩
        have E9 : EB W4 W9 bb A c x2 := by rw [hW9]; exact E.out.alloc _
        have M9 : MB W9 bp mb d.length D := by rw [hW9]; exact ⟨blk_alloc M.out.box _, M.out.own.alloc _⟩
        have sw : w.heap.size ≤ W4.heap.size := B4.out.size
        have l1 : W4.heap.size < W9.heap.size := Nat.lt_of_le_of_lt E9.lb E9.lt
        have lbx : w.heap.size < bx := by rw [hbx]; exact Nat.lt_of_le_of_lt (Nat.le_trans sw E.out.lb) E.out.lt
        have lbx4 : W4.heap.size ≤ bx := by rw [hbx]; exact E.out.below.size
        have lbp : bp < W9.heap.size := blk_lt M9.box
        have lmb : mb < W9.heap.size := M9.own.lt
        have hPL := P.out
        have HPL := Aside0.mk hPL
        clear hPL P BW
        gi_wp2_with fail
        rw [← hW9, ← hbx]
        clear hW9 hbx E M
        refine rangeFunc_L (F := Fence.wide) rfl (by omega) (gf := 56) (lb := #[.pointer (some ⟨bx, 0, none⟩)]) rfl trivial (enters_of Try.func56 (by kernel_rfl) rfl)
          (runs_seq (4 - 1) (by omega) w bx A0 c0 l0 HR0.out W9 R9) keptAt_t (fun W l o o' hl ho h1 h2 k hk => World.putObj_heap_other (by have := R9.1.lt; rcases hk with hk | hk <;> omega)) (Below.refl _ _) (fun _ => rfl)
          (fun j W => (∃ acc A c, runsG k d ((runL l0).drop j) acc = some b3 ∧ EB W4 W bb A c acc) ∧ MB W bp mb d.length D ∧ RunAt W w bx A0 c0 l0 ∧ Below w.heap.size w W)
          (fun _ _ _ => False)
          (fun s X Y row hs hg hr => by
            obtain ⟨⟨acc, A, c, h1, h2⟩, h3, h4, h5⟩ := hs
            have h6 := below_kept (Bnd := W9.heap.size) h5 (Nat.le_refl _) (by omega) hg hr
            exact ⟨⟨acc, A, c, h1, h2.keptR (Bnd := W9.heap.size) hg hr (by omega)⟩, h3.keptR (Bnd := W9.heap.size) hg (fun r e => (hr r e).1) lbp lmb, ⟨box_kept h4.1 hg hr, fun k hk => h6.block k hk⟩, h6⟩)
          (fun _ _ _ _ _ hs _ _ => hs)
          ⟨⟨x2, A, c, by rw [List.drop_zero]; exact HX3.out, E9⟩, M9, R9, B9⟩
          ?a1 ?assign ?body ?done ?stop
        case assign =>
          intro l q W K hk hK
          unfold encR
          generalize hx : (runL l0).getD q (ByteArray.empty, 0) = E at *
          gi_wp2
          subst hx
          exact hK
        case body =>
          rintro l q W hk ⟨⟨acc, A, c, hE, hI⟩, hM, hR, hB⟩
          have hdr : (runL l0).drop q = (runL l0).getD q (ByteArray.empty, 0) :: (runL l0).drop (q + 1) := by
            rw [List.drop_eq_getElem_cons hk]
            congr 1
            simp [List.getD, List.getElem?_eq_getElem hk]
          rw [hdr, runsG] at hE
          generalize (runL l0).getD q (ByteArray.empty, 0) = E at *
          split at hE
          case isFalse => cases hE
          rename_i hsz
          obtain ⟨a1, ha1, hE1⟩ := Option.bind_eq_some_iff.1 hE
          clear hE
          obtain ⟨a2, ha2, hE2⟩ := Option.bind_eq_some_iff.1 hE1
          clear hE1
          have HA1 := Aside0.mk ha1
          have HA2 := Aside0.mk ha2
          have HE2 := Aside0.mk hE2
          have HK := Aside0.mk (Go.WideMaps.keyOf_string_mk Try.underlying9 (s := E.1) (by unfold maxLen; omega))
          have HI := Aside0.mk hI
          have HM := Aside0.mk hM
          have HR := Aside0.mk hR
          have HBB := Aside0.mk hB
          have z0 := hI.cell
          have zp := hM.cell
          clear ha1 ha2 hE2 hI hM hR hB hdr hsz
          gi_wp2_with (gi_at_lookup; refine wpListIn_lookup_own_int _ rfl _ _ 50 rfl 9 3 .i64 lawS Try.underlying50 Try.underlying3 (zeroI _) mb d.length D rfl HM.out.own (.string E.1) (.string E.1.data.toList) rfl HK.out ?_; intro cc hat hwc; have hc : cc = plc d E.1 := (by have h_ := hat.symm.trans (HPL.out.get E.1); injection h_ with h_; injection h_); subst hc; clear hat hwc)
          refine ⟨trivial, (CallsIn.inRound l (callsIn_wide.2 (HI.out.num HA1.out))).mono ?_⟩
          rintro e Y1 ⟨A1, c1', rfl, n1⟩
          have N1 := Aside0.mk n1
          have y1f := n1.fro
          obtain ⟨u1, y1c⟩ := n1.cel
          clear n1 z0 zp HK HA1
          gi_wp2_with fail
          refine ⟨trivial, (CallsIn.inRound l (callsIn_wide.2 (N1.out.next.num HA2.out))).mono ?_⟩
          rintro e Y2 ⟨A2', c2', rfl, n2⟩
          have N2 := Aside0.mk n2
          have y2f := n2.fro
          obtain ⟨u2, y2c⟩ := n2.cel
          clear n2 HA2 y1f y1c u1
          gi_wp2
          have hok := N1.out.okp.trans N2.out.okp
          have hE2 := N2.out.next
          have hw2 : Below w.heap.size w (Y2.setCell ⟨bb, 0, none⟩ (.slice A2' a2.length c2')) := B4.out.trans (hE2.below.mono sw)
          have hkp : KeptAt (RunS w.heap.size bx) W (Y2.setCell ⟨bb, 0, none⟩ (.slice A2' a2.length c2')) := fun k hk => by
            rcases hk with hk | rfl
            · exact (hw2.block k hk).trans (HBB.out.block k hk).symm
            · have hb := HR.out.1
              exact (hok.same _ _ hb (fun e => by subst e; have h2 := HI.out.box; have e3 := h2.symm.trans (show W.heap[_]? = _ from hb); injection e3 with e3; injection e3 with e4 e5; exact absurd e5 (by decide)) (fun c fz e => by cases e)).trans hb.symm
          exact ⟨hok.keeps HI.out.box _, hkp, ⟨a2, A2', c2', HE2.out, hE2⟩, HM.out.okp HI.out.box hok, HR.out.move hkp, hw2⟩
        case done =>
          rintro D' W hD ⟨⟨acc, A, c, hE, hI⟩, hM, hR, hB⟩ hK
          rw [List.drop_length, runsG] at hE
          cases hE
          have z0 := hI.cell
          obtain ⟨_, _, hcs, hcl, hcv⟩ := Kd.R_reads hI.row
          cases hcs
          have hcon := Kd.C_string (dst := 9) (c := c) Try.underlying48 Try.underlying5 Try.underlying9 hcv
          have HK := Aside0.mk hK
          have HB := Aside0.mk hB
          have HI := Aside0.mk hI
          have h2 := H2.out
          clear hK hB hI hM hR H2
          by_cases cb : (b3.length : Int) > 1048576
          · rw [if_pos cb] at h2
            cases h2
            have tb : decide ((1048576 : Int) < (b3.length : Int)) = true := decide_eq_true cb
            have tb2 : decide (1048576 < b3.length) = true := decide_eq_true (by omega)
            gi_wp2
            refine ⟨by simp, .inl ⟨_, _, rfl, run_takeDeferred HK.out, ?_⟩⟩
            exact ⟨_, results_tmp2 rfl _ _ _, rfl, below_kept (Bnd := D') HB.out (Nat.le_refl _) (by omega) (grownBy_putObj' W D' (.deferred none)) (fun r e => by cases e; exact ⟨Nat.le_refl _, _, HK.out, rfl⟩)⟩
          · rw [if_neg cb] at h2
            cases h2
            have tb : decide ((1048576 : Int) < (b3.length : Int)) = false := decide_eq_false cb
            have tb2 : decide (1048576 < b3.length) = false := decide_eq_false (by omega)
            gi_wp2
            refine ⟨by simp, .inl ⟨_, _, rfl, run_takeDeferred HK.out, ?_⟩⟩
            exact ⟨_, results_tmp2 rfl _ _ _, rfl, below_kept (Bnd := D') HB.out (Nat.le_refl _) (by omega) (grownBy_putObj' W D' (.deferred none)) (fun r e => by cases e; exact ⟨Nat.le_refl _, _, HK.out, rfl⟩)⟩
        case stop =>
          rintro D c k W _ _ h _
          exact h.elim
  · have c1 : q = false := by simpa using c1
    subst c1
    rw [if_neg (by simp)] at h1
    cases h1
    gi_wp2_with fail
    refine ⟨trivial, (callsIn_wide.2 (dictcol_isColumn.calls A0 c0 l0 false w HR0.out HC0.out HQ.out)).mono ?_⟩
    rintro e W1 ⟨rfl, ⟨m1, rfl⟩⟩
    gi_wp2
    exact ⟨_, results_tmp2 rfl _ _ _, rfl, pw_below_drewN (Below.refl _ _) m1⟩
end Go.Proofs.Ytfklecicddpcjaa.Hand
end
