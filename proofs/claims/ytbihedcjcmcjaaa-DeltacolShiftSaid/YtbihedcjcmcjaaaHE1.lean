/- Several texts of this session in one. No condition beyond those in the statements. -/
import Derived.Shelf.Strings.Builder1
import Derived.Test.YtbihedcjcmcjaaaProg
import Derived.Test.YtbihedcjcmcjaaaWMore
import Derived.RangeFuncBox
import Derived.Shelf.Strings.BuilderK
import Derived.Test.YtbihedcjcmcjaaaSeq
import Derived.Shelf.Abstract
import Derived.WalkKit
import Derived.OwnWalkIn
import Derived.TacticsInMore
import Derived.LoopNIn
import Derived.LoopIn
import Derived.StillTailTactics
import Derived.Deep.QuietTactic
import Derived.BigQuiet
import Derived.Test.YtbihedcjcmcjaaaIn
import Derived.Test.YtbihedcjcmcjaaaAA
import Derived.Sort.CutIn
section
namespace Go.Proofs.Ytbihedcjcmcjaaa.Hand
open Go.RowKit Go.Shelf
def bren : Ren := ⟨fun | 166 => 25 | 169 => 29 | 240 => 35 | 276 => 39 | n => n,
  fun | 0 => 0 | 3 => 3 | 4 => 4 | 5 => 5 | 9 => 9 | 20 => 20 | 37 => 38 | 70 => 51 | 72 => 53 | 75 => 55 | 80 => 62 | 127 => 68 | 164 => 73 | n => n, fun n => n⟩
theorem blay166 : Lays.n166 Try.prog bren := {
  mixed := by kernel_rfl
  f166 := Try.func25.trans (congrArg some (by kernel_rfl))
  f240 := Try.func35.trans (congrArg some (by kernel_rfl))
  f276 := Try.func39.trans (congrArg some (by kernel_rfl))
  t0 := Try.underlying0
  a0 := Try.isAgg0
  z0 := Try.sizeOf0
  v0 := Try.zeroValue0
  t3 := Try.underlying3
  a3 := Try.isAgg3
  z3 := Try.sizeOf3
  v3 := Try.zeroValue3
  t4 := Try.underlying4
  a4 := Try.isAgg4
  z4 := Try.sizeOf4
  v4 := Try.zeroValue4
  t9 := Try.underlying9
  a9 := Try.isAgg9
  z9 := Try.sizeOf9
  v9 := Try.zeroValue9
  t20 := Try.underlying20
  a20 := Try.isAgg20
  z20 := Try.sizeOf20
  v20 := Try.zeroValue20
  t37 := Try.underlying38
  a37 := Try.isAgg38
  z37 := Try.sizeOf38
  v37 := Try.zeroValue38
  t70 := Try.underlying51
  a70 := Try.isAgg51
  z70 := Try.sizeOf51
  v70 := Try.zeroValue51
  t72 := Try.underlying53
  a72 := Try.isAgg53
  z72 := Try.sizeOf53
  v72 := Try.zeroValue53
  t75 := Try.underlying55
  a75 := Try.isAgg55
  z75 := Try.sizeOf55
  v75 := Try.zeroValue55
  t164 := Try.underlying73
  a164 := Try.isAgg73
  z164 := Try.sizeOf73
  v164 := Try.zeroValue73 }
theorem blay169 : Lays.n169 Try.prog bren := {
  mixed := by kernel_rfl
  f169 := Try.func29.trans (congrArg some (by kernel_rfl))
  t0 := Try.underlying0
  a0 := Try.isAgg0
  z0 := Try.sizeOf0
  v0 := Try.zeroValue0
  t3 := Try.underlying3
  a3 := Try.isAgg3
  z3 := Try.sizeOf3
  v3 := Try.zeroValue3
  t9 := Try.underlying9
  a9 := Try.isAgg9
  z9 := Try.sizeOf9
  v9 := Try.zeroValue9
  t37 := Try.underlying38
  a37 := Try.isAgg38
  z37 := Try.sizeOf38
  v37 := Try.zeroValue38
  t70 := Try.underlying51
  a70 := Try.isAgg51
  z70 := Try.sizeOf51
  v70 := Try.zeroValue51
  t72 := Try.underlying53
  a72 := Try.isAgg53
  z72 := Try.sizeOf53
  v72 := Try.zeroValue53
  t127 := Try.underlying68
  a127 := Try.isAgg68
  z127 := Try.sizeOf68
  v127 := Try.zeroValue68 }
theorem bextra : Builder.Extra Try.prog bren := {
  sizeBuilder := by kernel_rfl
  liesBuilder := by kernel_rfl
  t5 := Try.underlying5
  a5 := Try.isAgg5
  z5 := Try.sizeOf5
  v5 := Try.zeroValue5
  infoByte := by kernel_rfl
  cellsByte := by kernel_rfl
  sizeByte := by kernel_rfl
  neB5 := by decide }
theorem builder_write (B b : Nat) (bs : List Value) (s : ByteArray) (w : World) (h : Lib.IsBuilder 53 5 B b bs w) (hlen : bs.length + s.size ≤ 140737488355328) (hBw : B ≤ w.heap.size) :
    Calls Try.prog 25 #[.pointer (some ⟨b, 0, none⟩), .string s] w fun e w' => e = .returned (.tuple #[.int .i64 s.size, .nilIface]) ∧ (Lib.BuilderAt 53 5 B b (.pointer (some ⟨b, 0, none⟩)) (bs ++ Lib.strCells s) w' ∧ Below B w w') :=
  Any.Builder_WriteString blay166 bextra B b bs s w h hlen hBw
theorem builder_string (B b : Nat) (l : List UInt8) (w : World) (h : Lib.IsBuilder 53 5 B b (Lib.byteCells l) w) (hBw : B ≤ w.heap.size) :
    Calls Try.prog 29 #[.pointer (some ⟨b, 0, none⟩)] w fun e w' => e = .returned (.string ⟨l.toArray⟩) ∧ Below B w w' :=
  Any.Builder_String_any blay169 bextra B b l w h hBw
end Go.Proofs.Ytbihedcjcmcjaaa.Hand
end
section
namespace Go.Proofs.Ytbihedcjcmcjaaa.Hand
open Go.RowKit Go.Shelf Go.Proofs.YtbihedcjcmcjaaaW.PrintWords Go.Proofs.YtbihedcjcmcjaaaW.PrintMore
set_option linter.unusedVariables false
set_option linter.unusedSimpArgs false
theorem builder_writeK (B b : Nat) (bs : List Value) (s : ByteArray) (w : World) (h : Lib.IsBuilderF 53 5 B b bs w) (hlen : bs.length + s.size ≤ 140737488355328) (hBw : B ≤ w.heap.size) :
    Calls Try.prog 25 #[.pointer (some ⟨b, 0, none⟩), .string s] w fun e w' => e = .returned (.tuple #[.int .i64 s.size, .nilIface]) ∧ (Lib.BuilderAtF 53 5 B b (.pointer (some ⟨b, 0, none⟩)) (bs ++ Lib.strCells s) w' ∧ Below B w w' ∧ Lib.OthersKept 5 (some b) w w') :=
  Any.Builder_WriteString_k blay166 bextra B b bs s w h hlen hBw
theorem builder_stringK (B b : Nat) (l : List UInt8) (w : World) (h : Lib.IsBuilderF 53 5 B b (Lib.byteCells l) w) (hBw : B ≤ w.heap.size) :
    Calls Try.prog 29 #[.pointer (some ⟨b, 0, none⟩)] w fun e w' => e = .returned (.string ⟨l.toArray⟩) ∧ (Lib.IsBuilderF 53 5 B b (Lib.byteCells l) w' ∧ Below B w w' ∧ Lib.OthersKept 5 (some b) w w') :=
  Any.Builder_String_any_k blay169 bextra B b l w h hBw
/-- A builder of the call's own, at block b. -/
abbrev IsB (b : Nat) (s : ByteArray) (w : World) : Prop := Lib.IsBuilderF 53 5 b b (Lib.strCells s) w
theorem builderAt_move {T e : TypeId} {B b : Nat} {p : Value} {bs : List Value} {W W' : World} (h : Lib.BuilderAtF T e B b p bs W) (hk : ∀ (k : Nat) cs t fz, W.heap[k]? = some (.cells cs t fz) → W'.heap[k]? = some (.cells cs t fz)) : Lib.BuilderAtF T e B b p bs W' := by
  obtain ⟨hB, v, hb, hown, hne⟩ := h
  refine ⟨hB, v, hk _ _ _ _ hb, ⟨hown.1, ?_⟩, hne⟩
  rcases hown.2 with hn | ⟨g, cap, cur, fz, hv, hbg, hg, rest⟩
  · exact .inl hn
  · exact .inr ⟨g, cap, cur, fz, hv, hbg, hk _ _ _ _ hg, rest⟩
theorem isB_move {b : Nat} {s : ByteArray} {W W' : World} (h : IsB b s W) (hk : ∀ (k : Nat) cs t fz, W.heap[k]? = some (.cells cs t fz) → W'.heap[k]? = some (.cells cs t fz)) : IsB b s W' :=
  h.elim (fun x => .inl (builderAt_move x hk)) (fun x => .inr (builderAt_move x hk))
theorem isB_below {b : Nat} {s : ByteArray} {W W' : World} (h : IsB b s W) (hb : Below W.heap.size W W') : IsB b s W' :=
  isB_move h (fun k cs t fz hk => (hb.block k (Array.getElem?_eq_some_iff.1 hk).1).trans hk)
theorem isB_grown {b Bnd : Nat} {s : ByteArray} {W W' : World} {row : Option Nat} (h : IsB b s W) (hg : W.grownBy W' row) (hr : ∀ r, row = some r → Bnd ≤ r ∧ ∃ o : Obj, W.heap[r]? = some o ∧ o.isCells = false) : IsB b s W' :=
  isB_move h (fun k cs t fz hk => (hg.block k (Array.getElem?_eq_some_iff.1 hk).1 (fun e => by
    obtain ⟨_, o, ho, hc⟩ := hr k e.symm
    rw [hk] at ho; cases ho; cases hc)).trans hk)
theorem isB_new (W : World) (b : Nat) (hb : b = W.heap.size) : IsB b ⟨#[]⟩ (W.alloc (.cells #[.pointer none, .slice none 0 0] 53)) := by
  subst hb
  exact Lib.IsBuilderF.of (.inl ⟨Nat.le_refl _, .slice none 0 0, World.alloc_heap_new W _, World.ownsRow_nil _ _ _ _, by simp [Value.ownBlock]⟩)
theorem isB_cells {b : Nat} {s : ByteArray} {W : World} (h : IsB b s W) : ∃ cs t fz, W.heap[b]? = some (.cells cs t fz) := by
  rcases h with ⟨_, v, hb, _⟩ | ⟨_, v, hb, _⟩ <;> exact ⟨_, _, _, hb⟩
theorem strCells_append (a b : ByteArray) : Lib.strCells (a ++ b) = Lib.strCells a ++ Lib.strCells b := by simp [Lib.strCells, ByteArray.data_append]
def putG (s acc : ByteArray) : Option ByteArray := if acc.size + s.size ≤ 140737488355328 then some (acc ++ s) else none
theorem putG_some {s acc r : ByteArray} (h : putG s acc = some r) : acc.size + s.size ≤ 140737488355328 ∧ r = acc ++ s := by
  unfold putG at h
  split at h
  · exact ⟨by assumption, (Option.some.inj h).symm⟩
  · cases h
theorem put_calls (b : Nat) (s acc r : ByteArray) (w : World) (hI : Aside0 (IsB b acc w)) (hb : b < w.heap.size) (h : putG s acc = some r) :
    Calls Try.prog 25 #[.pointer (some ⟨b, 0, none⟩), .string s] w fun e w' => e = .returned (.tuple #[.int .i64 s.size, .nilIface]) ∧ Aside0 (IsB b r w') ∧ Aside0 (Below b w w') ∧ Aside0 (Lib.OthersKept 5 (some b) w w') := by
  obtain ⟨h1, rfl⟩ := putG_some h
  refine (builder_writeK b b (Lib.strCells acc) s w hI.out (by rw [Lib.strCells_length]; exact h1) (by omega)).mono ?_
  rintro e w' ⟨rfl, hA, hB, hO⟩
  exact ⟨rfl, ⟨by unfold IsB; rw [strCells_append]; exact .inr hA⟩, ⟨hB⟩, ⟨hO⟩⟩
theorem keeps_put {b B : Nat} {s : ByteArray} {W W' : World} (hI : IsB b s W) (hs : W.heap.size ≤ W'.heap.size) (hO : Lib.OthersKept 5 (some b) W W') : ∀ (k : Nat) (o : Obj), B ≤ k → W.heap[k]? = some o → o.isCells = false → W'.heap[k]? = some o := by
  intro k o _ hk hc
  refine hO k o hk (fun e => ?_) (fun c fz e => by subst e; cases hc)
  obtain ⟨cs, t, fz, hb⟩ := isB_cells hI
  cases e
  rw [hk] at hb; cases hb; cases hc
end Go.Proofs.Ytbihedcjcmcjaaa.Hand
end
section
namespace Go.Proofs.Ytbihedcjcmcjaaa.Hand
open Go.RowKit Go.Shelf Go.Proofs.YtbihedcjcmcjaaaW.PrintWords Go.Proofs.YtbihedcjcmcjaaaW.PrintMore Go.Proofs.Ytbihedcjcmcjaaa.Seq
attribute [local go_sem] Oper.semAt_some
set_option linter.unusedVariables false
set_option linter.unusedSimpArgs false
/-- How many numbers of a list, from its first on, are x. -/
def eqN (x : Int) : List Int → Nat
  | [] => 0
  | y :: r => if y = x then eqN x r + 1 else 0
theorem eqN_le (x : Int) : ∀ l : List Int, eqN x l ≤ l.length
  | [] => Nat.le_refl _
  | y :: r => by
    unfold eqN
    split
    · have := eqN_le x r; simp; omega
    · simp
def runF : Nat → List Int → List (Int × Int)
  | 0, _ => []
  | _ + 1, [] => []
  | d + 1, x :: r => (x, ((eqN x r + 1 : Nat) : Int)) :: runF d (r.drop (eqN x r))
/-- The runs of a list: each number and how often it stands there. -/
def runL (l : List Int) : List (Int × Int) := runF l.length l
theorem runF_fuel : ∀ (d e : Nat) (l : List Int), l.length ≤ d → l.length ≤ e → runF d l = runF e l
  | 0, 0, _, _, _ => rfl
  | 0, e + 1, [], _, _ => rfl
  | d + 1, 0, [], _, _ => rfl
  | d + 1, e + 1, [], _, _ => rfl
  | d + 1, e + 1, x :: r, h1, h2 => by
    simp only [List.length_cons] at h1 h2
    rw [runF, runF, runF_fuel d e (r.drop (eqN x r)) (by rw [List.length_drop]; omega) (by rw [List.length_drop]; omega)]
theorem runL_nil : runL [] = [] := rfl
theorem runL_cons (x : Int) (r : List Int) : runL (x :: r) = (x, ((eqN x r + 1 : Nat) : Int)) :: runL (r.drop (eqN x r)) := by
  unfold runL
  rw [List.length_cons, runF, runF_fuel r.length (r.drop (eqN x r)).length _ (by rw [List.length_drop]; omega) (Nat.le_refl _)]
theorem runF_len : ∀ (d : Nat) (l : List Int), (runF d l).length ≤ d
  | 0, _ => Nat.le_refl _
  | _ + 1, [] => by simp [runF]
  | d + 1, x :: r => by simp only [runF, List.length_cons]; have := runF_len d (r.drop (eqN x r)); omega
theorem runL_len (l : List Int) : (runL l).length ≤ l.length := runF_len _ _
theorem runF_pos : ∀ (d : Nat) (l : List Int), ∀ p ∈ runF d l, p.1 ∈ l ∧ 1 ≤ p.2 ∧ p.2 ≤ l.length
  | 0, _, p, h => by simp [runF] at h
  | _ + 1, [], p, h => by simp [runF] at h
  | d + 1, x :: r, p, h => by
    have hle := eqN_le x r
    rcases List.mem_cons.1 h with rfl | h
    · exact ⟨by simp, by dsimp only; omega, by simp; omega⟩
    · obtain ⟨h1, h2, h3⟩ := runF_pos d _ p h
      exact ⟨List.mem_cons_of_mem _ (List.mem_of_mem_drop h1), h2, by rw [List.length_drop] at h3; simp; omega⟩
def KeptAt (S : Nat → Prop) (W W' : World) : Prop := ∀ k, S k → W'.heap[k]? = W.heap[k]?
theorem keptAt_t {S : Nat → Prop} {A B C : World} (h : KeptAt S A B) (k : KeptAt S B C) : KeptAt S A C := fun i hi => (k i hi).trans (h i hi)
def encR (L : List (Int × Int)) (k : Nat) : Array Value := #[.int .i64 (L.getD k (0, 0)).1, .int .i64 (L.getD k (0, 0)).2]
def RunS (n0 b : Nat) (k : Nat) : Prop := k < n0 ∨ k = b
def RunAt (W w0 : World) (b : Nat) (A : Option Addr) (c : Nat) (l : List Int) : Prop := Boxed W b 24 (.slice A l.length c) ∧ ∀ k, k < w0.heap.size → W.heap[k]? = w0.heap[k]?
theorem RunAt.move {W W' w0 : World} {b : Nat} {A : Option Addr} {c : Nat} {l : List Int} (h : RunAt W w0 b A c l) (hk : KeptAt (RunS w0.heap.size b) W W') : RunAt W' w0 b A c l :=
  ⟨(hk b (.inr rfl)).trans h.1, fun k hlt => (hk k (.inl hlt)).trans (h.2 k hlt)⟩
theorem RunAt.row {W w0 : World} {b : Nat} {A : Option Addr} {c : Nat} {l : List Int} (h : RunAt W w0 b A c l) (hC : Kd.C (Kd.int .i64) w0 A l.length l) : Kd.C (Kd.int .i64) W A l.length l := (Kd.heap_int .i64).C (fun k hk => h.2 k hk) hC
theorem RunAt.same {W W' w0 : World} {b : Nat} {A : Option Addr} {c : Nat} {l : List Int} (h : RunAt W w0 b A c l) (e : W'.heap = W.heap) : RunAt W' w0 b A c l := h.move (fun k _ => by rw [e])
theorem drop_rd {l : List Int} {i : Nat} (h : i < l.length) : l.drop i = rd l (i : Int) :: l.drop (i + 1) := by
  rw [List.drop_eq_getElem_cons h]
  congr 1
  simp [rd, List.getD, List.getElem?_eq_getElem h]
theorem encR_at {L : List (Int × Int)} {k : Nat} {x y : Int} {rest : List (Int × Int)} (h : L.drop k = (x, y) :: rest) : k < L.length ∧ encR L k = #[.int .i64 x, .int .i64 y] ∧ L.drop (k + 1) = rest := by
  have hk : k < L.length := by
    rcases Nat.lt_or_ge k L.length with h' | h'
    · exact h'
    · rw [List.drop_eq_nil_of_le h'] at h; cases h
  rw [List.drop_eq_getElem_cons hk] at h
  injection h with h1 h2
  refine ⟨hk, ?_, h2⟩
  simp [encR, List.getD, List.getElem?_eq_getElem hk, h1]
theorem grown_drewN (W : World) (m : Nat) : W.grownBy (W.drewN m) none := ⟨rfl, rfl, rfl, Nat.le_refl _, fun _ _ _ => rfl⟩
theorem abides_drewN {B : Nat} {J : Nat → World → Prop} (h : AbidesFrom B J) {k : Nat} {W : World} (m : Nat) (hj : J k W) : J k (W.drewN m) := h k W _ none hj (grown_drewN W m) (fun r e => by cases e)
set_option maxRecDepth 100000 in
set_option maxHeartbeats 4000000 in
theorem runs_seq (n : Nat) (hn : 1 ≤ n) (w0 : World) (b : Nat) (A : Option Addr) (c : Nat) (l : List Int) (hC : Kd.C (Kd.int .i64) w0 A l.length l) (w : World) (hw : RunAt w w0 b A c l) :
    SeqL Fence.wide n Try.prog 36 #[.pointer (some ⟨b, 0, none⟩)] (encR (runL l)) (runL l).length (KeptAt (RunS w0.heap.size b)) w := by
  intro lp J Jx W hW hJ hJx hY h0
  have hlt0 := hw.1.lt
  have hbW : RunAt W w0 b A c l := ⟨(hW.block b hw.1.lt).trans hw.1, fun k hk => (hW.block k (by
    have := hw.2 k hk
    rw [Array.getElem?_eq_getElem hk] at this
    exact (Array.getElem?_eq_some_iff.1 this).1)).trans (hw.2 k hk)⟩
  have hm := hC.2.1
  refine callsIn_of_wp Try.func36 rfl trivial ?_ rfl
  simp only [Try.ntmps36, List.size_toArray, List.length_cons, List.length_nil, Nat.reduceAdd, Nat.reduceSub, Array.replicate_succ, Array.replicate_zero, List.push_toArray, List.append_toArray, List.nil_append, List.cons_append]
  gi_wp2
  gi_loopw [3] (fun v3 wr => ∃ i k : Nat, i ≤ l.length ∧ v3 = .int .i64 i ∧ Aside0 (runL (l.drop i) = (runL l).drop k) ∧ k ≤ (runL l).length ∧ J k wr ∧ RunAt wr w0 b A c l)
    (fun v3 _ => l.length - (intOf v3).toNat)
  case atStart => exact ⟨0, 0, Nat.zero_le _, rfl, ⟨rfl⟩, Nat.zero_le _, h0, hbW⟩
  case round =>
    obtain ⟨i, k, hi, rfl, HE, hkl, hJs, hbr⟩ := hrel
    have q1 := hbr.1.cell
    by_cases ci : i < l.length
    · have ti : decide (i < l.length) = true := decide_eq_true ci
      obtain ⟨ad, rfl, r0⟩ := Kd.at_int (hbr.row hC) (i : Int) (by omega) (by omega)
      simp only [Int.toNat_natCast] at r0
      have hle := eqN_le (rd l i) (l.drop (i + 1))
      rw [List.length_drop] at hle
      gi_wp2
      gi_loopw [4] (fun v4 ws => ∃ (te m : Nat), i + 1 ≤ te ∧ te ≤ l.length ∧ v4 = .int .i64 te ∧ eqN (rd l i) (l.drop te) + te = eqN (rd l i) (l.drop (i + 1)) + (i + 1) ∧ ws = wr.drewN m)
        (fun v4 _ => l.length - (intOf v4).toNat)
      case atStart => exact ⟨i + 1, 0, Nat.le_refl _, by omega, by go_num, rfl, rfl⟩
      case round =>
        obtain ⟨te, m, h1, h2, rfl, heq, rfl⟩ := hrel
        by_cases ct : te < l.length
        · have tt : decide (te < l.length) = true := decide_eq_true ct
          obtain ⟨ad2, e2, r2⟩ := Kd.at_int (hbr.row hC) (te : Int) (by omega) (by omega)
          cases e2
          simp only [Int.toNat_natCast] at r2
          rw [drop_rd ct, eqN] at heq
          by_cases cx : rd l te = rd l i
          · rw [if_pos cx] at heq
            have tx : (rd l te == rd l i) = true := beq_iff_eq.mpr cx
            gi_wp2
            refine wpIn_wide.2 ?_
            go_quiet (fail)
            gi_wp2
            go_roundw
            case rel => exact ⟨te + 1, m + nq, by omega, by omega, by go_num, by omega, by simp [World.drewN, Nat.add_assoc]⟩
            case measure => simp [intOf]; omega
          · rw [if_neg cx] at heq
            have tx : (rd l te == rd l i) = false := beq_eq_false_iff_ne.mpr cx
            gi_wp2
            refine wpIn_wide.2 ?_
            go_quiet (fail)
            have hJn := abides_drewN hJ nq (abides_drewN hJ m hJs)
            have hbn : RunAt ((wr.drewN m).drewN nq) w0 b (some ad) c l := hbr.same rfl
            have r0n : ((wr.drewN m).drewN nq).cell? (ad.add i) = some (.int .i64 (rd l i)) := r0
            generalize (wr.drewN m).drewN nq = Wn at hJn hbn r0n ⊢
            have q1n := hbn.1.cell
            have hk1 : te = eqN (rd l i) (l.drop (i + 1)) + (i + 1) := by omega
            obtain ⟨hk, henc, hrest⟩ := encR_at (k := k) (L := runL l) (HE.out.symm.trans (by rw [drop_rd ci, runL_cons]))
            obtain ⟨fn, tmps, assign, body, hy, hR⟩ := hY k Wn hk hJn
            rw [henc, show ((eqN (rd l i) (l.drop (i + 1)) + 1 : Nat) : Int) = (te : Int) - (i : Int) by omega] at hy
            try dsimp only at hy
            have hwr : wrap64 ((te : Int) - (i : Int)) = (te : Int) - (i : Int) := by unfold wrap64; omega
            have HK1 := Aside0.mk hk1
            clear hk1 heq
            gi_wp2
            refine hR.mono ?_
            rintro e W3 (⟨rfl, hJ3, hk3⟩ | ⟨rfl, hJx3⟩)
            · gi_wp2
              go_roundw
              case rel => exact ⟨te, k + 1, h2, rfl, ⟨by rw [hrest, List.drop_drop, show i + 1 + eqN (rd l i) (l.drop (i + 1)) = te by have := HK1.out; omega]⟩, hk, hJ3, hbn.move hk3⟩
              case measure => simp [intOf]; omega
            · gi_wp2
              refine bodyPost_ret (results_none rfl _ _ _) rfl ?_
              exact ⟨⟨_, rfl⟩, .inr ⟨k + 1, hk, hJx3⟩⟩
        · have tt : decide (te < l.length) = false := decide_eq_false ct
          rw [List.drop_eq_nil_of_le (by omega), eqN] at heq
          gi_wp2
          refine wpIn_wide.2 ?_
          go_quiet (fail)
          have hJn := abides_drewN hJ nq (abides_drewN hJ m hJs)
          have hbn : RunAt ((wr.drewN m).drewN nq) w0 b (some ad) c l := hbr.same rfl
          have r0n : ((wr.drewN m).drewN nq).cell? (ad.add i) = some (.int .i64 (rd l i)) := r0
          generalize (wr.drewN m).drewN nq = Wn at hJn hbn r0n ⊢
          have q1n := hbn.1.cell
          have hk1 : te = eqN (rd l i) (l.drop (i + 1)) + (i + 1) := by omega
          obtain ⟨hk, henc, hrest⟩ := encR_at (k := k) (L := runL l) (HE.out.symm.trans (by rw [drop_rd ci, runL_cons]))
          obtain ⟨fn, tmps, assign, body, hy, hR⟩ := hY k Wn hk hJn
          rw [henc, show ((eqN (rd l i) (l.drop (i + 1)) + 1 : Nat) : Int) = (te : Int) - (i : Int) by omega] at hy
          try dsimp only at hy
          have hwr : wrap64 ((te : Int) - (i : Int)) = (te : Int) - (i : Int) := by unfold wrap64; omega
          have HK1 := Aside0.mk hk1
          clear hk1 heq
          gi_wp2
          refine hR.mono ?_
          rintro e W3 (⟨rfl, hJ3, hk3⟩ | ⟨rfl, hJx3⟩)
          · gi_wp2
            go_roundw
            case rel => exact ⟨te, k + 1, h2, rfl, ⟨by rw [hrest, List.drop_drop, show i + 1 + eqN (rd l i) (l.drop (i + 1)) = te by have := HK1.out; omega]⟩, hk, hJ3, hbn.move hk3⟩
            case measure => simp [intOf]; omega
          · gi_wp2
            refine bodyPost_ret (results_none rfl _ _ _) rfl ?_
            exact ⟨⟨_, rfl⟩, .inr ⟨k + 1, hk, hJx3⟩⟩
    · have ti : decide (i < l.length) = false := decide_eq_false ci
      have hkl2 : k = (runL l).length := by
        have h := HE.out
        rw [List.drop_eq_nil_of_le (by omega), runL_nil] at h
        have := congrArg List.length h
        rw [List.length_drop] at this
        simp at this
        omega
      subst hkl2
      gi_wp2
      first | (refine bodyPost_end (results_none rfl _ _ _) rfl ?_) | (refine bodyPost_ret (results_none rfl _ _ _) rfl ?_)
      exact ⟨⟨_, rfl⟩, .inl hJs⟩
end Go.Proofs.Ytbihedcjcmcjaaa.Hand
end
section
namespace Go.Proofs.Ytbihedcjcmcjaaa.Hand
open Go.RowKit Go.Shelf Go.Proofs.YtbihedcjcmcjaaaW.PrintWords Go.Proofs.YtbihedcjcmcjaaaW.PrintMore Go.Proofs.Ytbihedcjcmcjaaa.Seq Go.Proofs.Ytbihedcjcmcjaaa.A
attribute [local go_sem] Oper.semAt_some
set_option linter.unusedVariables false
set_option linter.unusedSimpArgs false
def firstG (k : Nat) : List Int → ByteArray → Option ByteArray
  | [], acc => some acc
  | x :: r, acc => (deltacol_signed.f k x).bind fun s => (putG s acc).bind fun a => firstG k r a
def runsG (k : Nat) : List (Int × Int) → ByteArray → Option ByteArray
  | [], acc => some acc
  | p :: r, acc => (deltacol_signed.f k p.1).bind fun s => (putG s acc).bind fun a => (deltacol_unsigned.f k p.2).bind fun t => (putG t a).bind fun b => runsG k r b
def deltacol_encoding.f (k : Nat) (a0 : Int) (l1 l2 : List Int) : Option ByteArray := (deltacol_unsigned.f k a0).bind fun s => (putG s ⟨#[]⟩).bind fun a => (firstG k l1 a).bind fun b => runsG k (runL l2) b
theorem firstG_mono : ∀ (l : List Int) (acc : ByteArray) (k : Nat), LeO (firstG k l acc) (firstG (k + 1) l acc)
  | [], _, _ => LeO.refl _
  | x :: r, acc, k => LeO.bind (deltacol_signed.mono _ _) (fun s => LeO.bind (LeO.refl _) (fun a => firstG_mono r a k))
theorem runsG_mono : ∀ (l : List (Int × Int)) (acc : ByteArray) (k : Nat), LeO (runsG k l acc) (runsG (k + 1) l acc)
  | [], _, _ => LeO.refl _
  | p :: r, acc, k => LeO.bind (deltacol_signed.mono _ _) (fun s => LeO.bind (LeO.refl _) (fun a => LeO.bind (deltacol_unsigned.mono _ _) (fun t => LeO.bind (LeO.refl _) (fun b => runsG_mono r b k))))
theorem deltacol_encoding.mono : ∀ a0 a1 a2 k, LeO (deltacol_encoding.f k a0 a1 a2) (deltacol_encoding.f (k + 1) a0 a1 a2) := fun a0 a1 a2 k =>
  LeO.bind (deltacol_unsigned.mono _ _) (fun s => LeO.bind (LeO.refl _) (fun a => LeO.bind (firstG_mono _ _ _) (fun b => runsG_mono _ _ _)))
set_option maxHeartbeats 1000000 in
theorem runs_in (n : Nat) (A : Option Addr) (m c : Nat) (w : World) :
    CallsIn Fence.wide n Try.prog 28 #[.slice A m c] w fun e w' => e = .returned (.func (.func 36) #[] #[.pointer (some ⟨w.heap.size, 0, none⟩)]) ∧ w' = w.alloc (.cells #[.slice A m c] 24) := by
  refine callsIn_of_wp Try.func28 rfl trivial ?_ rfl
  simp only [Try.ntmps28, List.size_toArray, List.length_cons, List.length_nil, Nat.reduceAdd, Nat.reduceSub, Array.replicate_succ, Array.replicate_zero, List.push_toArray, List.append_toArray, List.nil_append, List.cons_append]
  gi_wp2
  go_ret
  exact ⟨rfl, rfl⟩
set_option maxRecDepth 100000 in
set_option maxHeartbeats 8000000 in
theorem deltacol_encoding.calls (k : Nat) (a0 : Int) (A1 : Option Addr) (c1 : Nat) (l1 : List Int) (A2 : Option Addr) (c2 : Nat) (l2 : List Int) (r : ByteArray) (w : World) (hr1 : Kd.C (Kd.int .i64) w A1 l1.length l1) (hc1 : l1.length ≤ c1) (hr2 : Kd.C (Kd.int .i64) w A2 l2.length l2) (hc2 : l2.length ≤ c2) (h : deltacol_encoding.f k a0 l1 l2 = some r) :
    Calls Try.prog 19 #[.int .i64 a0, .slice A1 l1.length c1, .slice A2 l2.length c2] w fun e w' => e = .returned (.string r) ∧ Below w.heap.size w w' := by
  unfold deltacol_encoding.f at h
  obtain ⟨s, hs, h1⟩ := Option.bind_eq_some_iff.1 h
  clear h
  obtain ⟨a, ha, h2⟩ := Option.bind_eq_some_iff.1 h1
  clear h1
  obtain ⟨b, hb, h⟩ := Option.bind_eq_some_iff.1 h2
  clear h2
  have hm1 := hr1.2.1
  have HR1 := Aside0.mk hr1
  have HR2 := Aside0.mk hr2
  have HS := Aside0.mk hs
  have HA := Aside0.mk ha
  have HB := Aside0.mk hb
  have H := Aside0.mk h
  clear hr1 hr2 hs ha hb h
  obtain ⟨W1, hW1⟩ : ∃ W1, W1 = w.alloc (.cells #[.pointer none, .slice none 0 0] 53) := ⟨_, rfl⟩
  have I1 : Aside0 (IsB w.heap.size ⟨#[]⟩ W1) := ⟨by rw [hW1]; exact isB_new w _ rfl⟩
  have B1 : Aside0 (Below w.heap.size w W1) := ⟨by rw [hW1]; exact (Below.refl _ w).alloc (Nat.le_refl _) _⟩
  have s1 : w.heap.size < W1.heap.size := by rw [hW1]; simp
  refine (callsIn_wide (n := 4)).1 ?_
  refine callsIn_of_wp_marks Try.func19 rfl trivial ?_ rfl
  simp only [Try.ntmps19, List.size_toArray, List.length_cons, List.length_nil, Nat.reduceAdd, Nat.reduceSub, Array.replicate_succ, Array.replicate_zero, List.push_toArray, List.append_toArray, List.nil_append, List.cons_append]
  gi_wp2_with fail
  rw [← hW1]
  refine ⟨trivial, (callsIn_wide.2 (deltacol_unsigned.calls k a0 s W1 HS.out)).mono ?_⟩
  rintro e W2 ⟨rfl, hb2⟩
  have I2 := Aside0.mk (isB_below I1.out hb2)
  have B2 := Aside0.mk (B1.out.trans (hb2.mono (Nat.le_of_lt s1)))
  have s2 : w.heap.size < W2.heap.size := Nat.lt_of_lt_of_le s1 hb2.size
  clear hb2 I1 B1 s1 hW1 W1 HS
  gi_wp2_with fail
  refine ⟨trivial, (callsIn_wide.2 (put_calls w.heap.size s ⟨#[]⟩ a W2 I2 s2 HA.out)).mono ?_⟩
  rintro e W3 ⟨rfl, I3, hb3, ho3⟩
  have B3 := Aside0.mk (B2.out.trans hb3.out)
  have s3 : w.heap.size < W3.heap.size := Nat.lt_of_lt_of_le s2 hb3.out.size
  clear ho3 hb3 I2 B2 s2 HA W2
  gi_wp2
  gi_loopw [17] (fun v17 wr => ∃ (j : Nat) (acc : ByteArray), j ≤ l1.length ∧ v17 = .int .i64 j ∧ Aside0 (firstG k (l1.drop j) acc = some b) ∧ Aside0 (IsB w.heap.size acc wr) ∧ Aside0 (Below w.heap.size w wr) ∧ w.heap.size < wr.heap.size)
    (fun v17 _ => l1.length - (intOf v17).toNat)
  case atStart => exact ⟨0, a, Nat.zero_le _, rfl, HB, I3, B3, s3⟩
  case round =>
    obtain ⟨j, acc, hj, rfl, HE, I4, B4, s4⟩ := hrel
    clear I3 B3 s3 HB
    by_cases cj : j < l1.length
    · have tj : decide (j < l1.length) = true := decide_eq_true cj
      obtain ⟨ad0, rfl, q0⟩ := Kd.at_int (Kd.C_below HR1.out B4.out) (j : Int) (by omega) (by omega)
      simp only [Int.toNat_natCast] at q0
      have hE := HE.out
      clear HE
      rw [drop_rd cj, firstG] at hE
      obtain ⟨s5, hs5, hE1⟩ := Option.bind_eq_some_iff.1 hE
      clear hE
      obtain ⟨a5, ha5, hE2⟩ := Option.bind_eq_some_iff.1 hE1
      clear hE1
      have HS5 := Aside0.mk hs5
      have HA5 := Aside0.mk ha5
      have HE5 := Aside0.mk hE2
      clear hs5 ha5 hE2
      gi_wp2_with fail
      refine ⟨trivial, (callsIn_wide.2 (deltacol_signed.calls k _ s5 _ HS5.out)).mono ?_⟩
      rintro e W5 ⟨rfl, hb5⟩
      have I5 := Aside0.mk (isB_below I4.out hb5)
      have B5 := Aside0.mk (B4.out.trans (hb5.mono (Nat.le_of_lt s4)))
      have s5' : w.heap.size < W5.heap.size := Nat.lt_of_lt_of_le s4 hb5.size
      clear hb5 I4 B4 HS5 q0
      gi_wp2_with fail
      refine ⟨trivial, (callsIn_wide.2 (put_calls w.heap.size s5 acc a5 W5 I5 s5' HA5.out)).mono ?_⟩
      rintro e W6 ⟨rfl, I6, hb6, ho6⟩
      have B6 := Aside0.mk (B5.out.trans hb6.out)
      have s6 : w.heap.size < W6.heap.size := Nat.lt_of_lt_of_le s5' hb6.out.size
      clear ho6 hb6 I5 B5 HA5
      gi_wp2
      go_roundw
      case rel => exact ⟨j + 1, a5, by omega, by go_num, HE5, I6, B6, s6⟩
      case measure => simp [intOf]; omega
    · have tj : decide (j < l1.length) = false := decide_eq_false cj
      have hE := HE.out
      clear HE
      rw [List.drop_eq_nil_of_le (by omega), firstG] at hE
      cases hE
      gi_wp2_with fail
      refine ⟨trivial, (runs_in _ _ _ _ _).mono ?_⟩
      rintro e W7 ⟨rfl, rfl⟩
      obtain ⟨W8, hW8⟩ : ∃ W8, W8 = wr.alloc (.cells #[.slice A2 l2.length c2] 24) := ⟨_, rfl⟩
      obtain ⟨bx, hbx⟩ : ∃ bx, bx = wr.heap.size := ⟨_, rfl⟩
      have B8 : Below w.heap.size w W8 := by rw [hW8]; exact B4.out.alloc B4.out.size _
      have R8 : RunAt W8 w bx A2 c2 l2 := ⟨by rw [hW8, hbx]; exact Boxed.new wr _ _, fun k hk => B8.block k hk⟩
      have I8 : IsB w.heap.size b W8 := by rw [hW8]; exact I4.out.alloc _
      have s8 : w.heap.size < W8.heap.size := by rw [hW8]; simp; omega
      have lbx : w.heap.size < bx := by omega
      clear I4 B4
      gi_wp2_with fail
      rw [← hW8, ← hbx]
      clear hW8 hbx s4
      refine rangeFunc_L (F := Fence.wide) rfl (by omega) (gf := 36) (lb := #[.pointer (some ⟨bx, 0, none⟩)]) rfl trivial (enters_of Try.func36 (by kernel_rfl) rfl)
        (runs_seq (4 - 1) (by omega) w bx A2 c2 l2 HR2.out W8 R8) keptAt_t (fun W l o o' hl ho h1 h2 k hk => World.putObj_heap_other (by have := R8.1.lt; rcases hk with hk | hk <;> omega)) (Below.refl _ _) (fun _ => rfl)
        (fun j W => (∃ acc, runsG k ((runL l2).drop j) acc = some r ∧ IsB w.heap.size acc W) ∧ RunAt W w bx A2 c2 l2 ∧ Below w.heap.size w W)
        (fun _ _ _ => False)
        (fun s X Y row hs hg hr => by
          obtain ⟨⟨acc, h1, h2⟩, h3, h4⟩ := hs
          have h5 := below_kept (Bnd := W8.heap.size) h4 (Nat.le_refl _) (by omega) hg hr
          exact ⟨⟨acc, h1, isB_grown h2 hg hr⟩, ⟨box_kept h3.1 hg hr, fun k hk => h5.block k hk⟩, h5⟩)
        (fun _ _ _ _ _ hs _ _ => hs)
        ⟨⟨b, by rw [List.drop_zero]; exact H.out, I8⟩, R8, B8⟩
        ?a1 ?assign ?body ?done ?stop
      case assign =>
        intro l q W K hk hK
        unfold encR
        generalize hx : (runL l2).getD q (0, 0) = E at *
        gi_wp2
        subst hx
        exact hK
      case body =>
        rintro l q W hk ⟨⟨acc, hE, hI⟩, hR, hB⟩
        have hdr : (runL l2).drop q = (runL l2).getD q (0, 0) :: (runL l2).drop (q + 1) := by
          rw [List.drop_eq_getElem_cons hk]
          congr 1
          simp [List.getD, List.getElem?_eq_getElem hk]
        rw [hdr, runsG] at hE
        generalize (runL l2).getD q (0, 0) = E at *
        obtain ⟨t1, ht1, hE1⟩ := Option.bind_eq_some_iff.1 hE
        obtain ⟨a1, ha1, hE2⟩ := Option.bind_eq_some_iff.1 hE1
        obtain ⟨t2, ht2, hE3⟩ := Option.bind_eq_some_iff.1 hE2
        obtain ⟨a2, ha2, hE4⟩ := Option.bind_eq_some_iff.1 hE3
        clear hE hE1 hE2 hE3
        have HT1 := Aside0.mk ht1
        have HA1 := Aside0.mk ha1
        have HT2 := Aside0.mk ht2
        have HA2 := Aside0.mk ha2
        have HE4 := Aside0.mk hE4
        have HI := Aside0.mk hI
        have HR := Aside0.mk hR
        have HBB := Aside0.mk hB
        have z0 : w.heap.size < W.heap.size := Nat.lt_trans lbx hR.1.lt
        clear ht1 ha1 ht2 ha2 hE4 hI hR hB hdr
        gi_wp2_with fail
        refine ⟨trivial, (CallsIn.inRound l (callsIn_wide.2 (deltacol_signed.calls k E.1 t1 W HT1.out))).mono ?_⟩
        rintro e Y1 ⟨rfl, hb1⟩
        have J1 := Aside0.mk (isB_below HI.out hb1)
        have z1 : w.heap.size < Y1.heap.size := Nat.lt_of_lt_of_le z0 hb1.size
        have P1 := Aside0.mk hb1
        clear hb1
        gi_wp2_with fail
        refine ⟨trivial, (CallsIn.inRound l (callsIn_wide.2 (put_calls w.heap.size t1 acc a1 Y1 J1 z1 HA1.out))).mono ?_⟩
        rintro e Y2 ⟨rfl, J2, P2, O2⟩
        have z2 : w.heap.size < Y2.heap.size := Nat.lt_of_lt_of_le z1 P2.out.size
        gi_wp2_with fail
        refine ⟨trivial, (CallsIn.inRound l (callsIn_wide.2 (deltacol_unsigned.calls k E.2 t2 Y2 HT2.out))).mono ?_⟩
        rintro e Y3 ⟨rfl, hb3⟩
        have J3 := Aside0.mk (isB_below J2.out hb3)
        have z3 : w.heap.size < Y3.heap.size := Nat.lt_of_lt_of_le z2 hb3.size
        have P3 := Aside0.mk hb3
        clear hb3
        gi_wp2_with fail
        refine ⟨trivial, (CallsIn.inRound l (callsIn_wide.2 (put_calls w.heap.size t2 a1 a2 Y3 J3 z3 HA2.out))).mono ?_⟩
        rintro e Y4 ⟨rfl, J4, P4, O4⟩
        have z4 : w.heap.size < Y4.heap.size := Nat.lt_of_lt_of_le z3 P4.out.size
        gi_wp2
        have c1 : KeptAt (RunS w.heap.size bx) W Y1 := fun k hk => P1.out.block k (by have := HR.out.1.lt; rcases hk with hk | hk <;> omega)
        have R1 := HR.out.move c1
        have c2 : KeptAt (RunS w.heap.size bx) Y1 Y2 := fun k hk => by
          rcases hk with hk | rfl
          · exact P2.out.block k hk
          · exact (O2.out _ _ R1.1 (fun e => by cases e; omega) (fun c fz e => by cases e)).trans R1.1.symm
        have R2 := R1.move c2
        have c3 : KeptAt (RunS w.heap.size bx) Y2 Y3 := fun k hk => P3.out.block k (by have := R2.1.lt; rcases hk with hk | hk <;> omega)
        have R3 := R2.move c3
        have c4 : KeptAt (RunS w.heap.size bx) Y3 Y4 := fun k hk => by
          rcases hk with hk | rfl
          · exact P4.out.block k hk
          · exact (O4.out _ _ R3.1 (fun e => by cases e; omega) (fun c fz e => by cases e)).trans R3.1.symm
        have kf1 : ∀ B, KeepsFrom B W Y1 := fun B => ⟨P1.out.size, fun k o _ hk _ => (P1.out.block k (Array.getElem?_eq_some_iff.1 hk).1).trans hk⟩
        have kf2 : ∀ B, KeepsFrom B Y1 Y2 := fun B => ⟨P2.out.size, keeps_put J1.out P2.out.size O2.out⟩
        have kf3 : ∀ B, KeepsFrom B Y2 Y3 := fun B => ⟨P3.out.size, fun k o _ hk _ => (P3.out.block k (Array.getElem?_eq_some_iff.1 hk).1).trans hk⟩
        have kf4 : ∀ B, KeepsFrom B Y3 Y4 := fun B => ⟨P4.out.size, keeps_put J3.out P4.out.size O4.out⟩
        exact ⟨(((kf1 _).trans (kf2 _)).trans (kf3 _)).trans (kf4 _), keptAt_t (keptAt_t (keptAt_t c1 c2) c3) c4, ⟨a2, HE4.out, J4.out⟩, R3.move c4,
          (((HBB.out.trans (P1.out.mono (Nat.le_of_lt z0))).trans P2.out).trans (P3.out.mono (Nat.le_of_lt z2))).trans P4.out⟩
      case done =>
        rintro D W hD ⟨⟨acc, hE, hI⟩, hR, hB⟩ hK
        rw [List.drop_length, runsG] at hE
        cases hE
        have z0 : w.heap.size < W.heap.size := Nat.lt_trans lbx hR.1.lt
        have HK := Aside0.mk hK
        clear hK
        gi_wp2_with fail
        refine ⟨trivial, (callsIn_wide.2 (builder_stringK w.heap.size w.heap.size r.data.toList W hI (Nat.le_of_lt z0))).mono ?_⟩
        rintro e Y ⟨rfl, hI5, hB5, hO5⟩
        have hK5 : Y.heap[D]? = some (.deferred (some [])) := by
          refine hO5 D _ HK.out (fun e => ?_) (fun c fz e => by cases e)
          obtain ⟨cs, t, fz, hc⟩ := isB_cells hI
          cases e
          have := HK.out
          rw [hc] at this; cases this
        gi_wp2
        refine ⟨by simp, .inl ⟨_, _, rfl, run_takeDeferred hK5, ?_⟩⟩
        exact ⟨_, results_tmp rfl _ _ _, rfl, below_kept (Bnd := D) (hB.trans hB5) (Nat.le_refl _) (by omega) (grownBy_putObj' Y D (.deferred none)) (fun r e => by cases e; exact ⟨Nat.le_refl _, _, hK5, rfl⟩)⟩
      case stop =>
        rintro D c k W _ _ h _
        exact h.elim
end Go.Proofs.Ytbihedcjcmcjaaa.Hand
end
