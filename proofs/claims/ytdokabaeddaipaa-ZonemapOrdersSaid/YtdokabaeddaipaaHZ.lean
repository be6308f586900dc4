/- Several texts of this session in one. No condition beyond those in the statements. -/
import Derived.Test.YtdokabaeddaipaaProg
import Derived.Test.YtdokabaeddaipaaSeq
import Derived.Test.YtdokabaeddaipaaWMore
import Derived.Test.YtdokabaeddaipaaAA
import Derived.RangeFuncBox
import Derived.Shelf.Abstract
import Derived.WalkKit
import Derived.OwnWalkIn
import Derived.TacticsInMore
import Derived.LoopNIn
import Derived.LoopIn
import Derived.StillTailTactics
import Derived.Deep.QuietTactic
import Derived.BigQuiet
import Derived.Laws.BitsAllLaws
import Derived.Test.YtdokabaeddaipaaHWords
import Derived.Test.YtdokabaeddaipaaMarks
import Derived.ControlIn
section
namespace Go.Proofs.Ytdokabaeddaipaa.Hand
open Go.RowKit Go.Shelf Go.Proofs.YtdokabaeddaipaaW.PrintWords Go.Proofs.YtdokabaeddaipaaW.PrintMore Go.Proofs.Ytdokabaeddaipaa.Seq Go.Proofs.Ytdokabaeddaipaa.A
attribute [local go_sem] Oper.semAt_some
set_option linter.unusedVariables false
set_option linter.unusedSimpArgs false
/-- The hash, byte by byte. -/
def hashF (s : ByteArray) : Nat → Int → Int → Int
  | 0, h, _ => h
  | d + 1, h, i => hashF s d (((Go.bits .xor .u32 h ((bt s i) % 4294967296)) * 16777619) % 4294967296) (i + 1)
def hashS (s : ByteArray) : Int := hashF s s.size 2166136261 0
theorem hashF_range (s : ByteArray) : ∀ (d : Nat) (h i : Int), 0 ≤ h → h < 4294967296 → 0 ≤ hashF s d h i ∧ hashF s d h i < 4294967296
  | 0, h, i, h0, h1 => ⟨h0, h1⟩
  | d + 1, h, i, h0, h1 => by
    rw [hashF]
    exact hashF_range s d _ _ (by omega) (by omega)
theorem hashS_range (s : ByteArray) : 0 ≤ hashS s ∧ hashS s < 4294967296 := hashF_range s _ _ _ (by omega) (by omega)
theorem labels_hash (s : ByteArray) (hs : s.size ≤ 9223372036854775807) : labels_HashString.f (s.size + 1) s = some (hashS s) := by
  have key : ∀ (d : Nat) (h : Int) (i : Nat), i + d = s.size → 0 ≤ h → h < 4294967296 → labels_HashString.l0 (d + 1) s h i = some (hashF s d h i) := by
    intro d
    induction d with
    | zero =>
      intro h i hi h0 h1
      rw [labels_HashString.l0, if_neg (by omega), hashF]
      rw [show wrap64 h = h by unfold wrap64; omega]
    | succ d ih =>
      intro h i hi h0 h1
      rw [labels_HashString.l0, if_pos (by omega), if_pos (by omega), hashF]
      rw [show wrap64 ((i : Int) + 1) = ((i + 1 : Nat) : Int) by unfold wrap64; omega]
      rw [ih _ (i + 1) (by omega) (by omega) (by omega)]
      rfl
  exact key s.size 2166136261 0 (by omega) (by omega) (by omega)
theorem ref05_hash (s : ByteArray) (hs : s.size ≤ 9223372036854775807) : lookoutref05_HashString.f (s.size + 1) s = some (hashS s) := by
  have key : ∀ (d : Nat) (h : Int) (i : Nat), i + d = s.size → 0 ≤ h → h < 4294967296 → lookoutref05_HashString.l0 (d + 1) s h i = some (hashF s d h i) := by
    intro d
    induction d with
    | zero =>
      intro h i hi h0 h1
      rw [lookoutref05_HashString.l0, if_neg (by omega), hashF]
      rw [show wrap64 h = h by unfold wrap64; omega]
    | succ d ih =>
      intro h i hi h0 h1
      rw [lookoutref05_HashString.l0, if_pos (by omega), if_pos (by omega), hashF]
      rw [show wrap64 ((i : Int) + 1) = ((i + 1 : Nat) : Int) by unfold wrap64; omega]
      rw [ih _ (i + 1) (by omega) (by omega) (by omega)]
      rfl
  exact key s.size 2166136261 0 (by omega) (by omega) (by omega)
/-- The prefixes. -/
def preB : Nat → ByteArray
  | 0 => ⟨#[48, 58]⟩
  | 1 => ⟨#[49, 58]⟩
  | _ => ⟨#[50, 58]⟩
theorem preB_size (k : Nat) : (preB k).size = 2 := by unfold preB; split <;> rfl
/-- The number of the k-th bit of a string. -/
def bitn (s : ByteArray) (k : Nat) : Int := hashS (preB k ++ s) % 256
theorem bitn_range (s : ByteArray) (k : Nat) : 0 ≤ bitn s k ∧ bitn s k < 256 := by unfold bitn; omega
theorem ref16_bit (s : ByteArray) (hs : s.size + 2 ≤ 9223372036854775807) (k : Nat) (hk : k < 3) : lookoutref16_bit.f (s.size + 3) s k = some (bitn s k) := by
  have hsz : (preB k ++ s).size = s.size + 2 := by rw [ByteArray.size_append, preB_size]; omega
  have hh := ref05_hash (preB k ++ s) (by omega)
  rw [hsz] at hh
  have hr := hashS_range (preB k ++ s)
  unfold lookoutref16_bit.f bitn
  rw [show wrap64 ((k : Int) + 1) = ((k + 1 : Nat) : Int) by unfold wrap64; omega]
  have hp : ((⟨#[48, 49, 50]⟩ : ByteArray).extract ((k : Nat) : Int).toNat ((k + 1 : Nat) : Int).toNat) ++ (⟨#[58]⟩ : ByteArray) = preB k := by
    obtain rfl | rfl | rfl : k = 0 ∨ k = 1 ∨ k = 2 := by omega
    all_goals rfl
  have hq : ((⟨#[48, 49, 50]⟩ : ByteArray).extract ((k : Nat) : Int).toNat ((k + 1 : Nat) : Int).toNat).size = 1 := by
    obtain rfl | rfl | rfl : k = 0 ∨ k = 1 ∨ k = 2 := by omega
    all_goals rfl
  rw [if_pos (by omega), if_pos (by omega), if_pos (by omega), hq, if_pos (by omega), hp, preB_size, if_pos (by omega), hh]
  simp only [Option.bind_some]
  rw [Int.tmod_eq_emod_of_nonneg hr.1]
theorem labels_hash_calls (s : ByteArray) (hs : s.size ≤ 9223372036854775807) (w : World) :
    Calls Try.prog 54 #[.string s] w fun e w' => e = .returned (.int .i64 (hashS s)) ∧ Drawn0 w w' := labels_HashString.calls (s.size + 1) s (hashS s) w (labels_hash s hs)
theorem ref16_bit_calls (s : ByteArray) (hs : s.size + 2 ≤ 9223372036854775807) (k : Nat) (hk : k < 3) (w : World) :
    Calls Try.prog 39 #[.string s, .int .i64 k] w fun e w' => e = .returned (.int .i64 (bitn s k)) ∧ Drawn0 w w' := lookoutref16_bit.calls (s.size + 3) s k (bitn s k) w (ref16_bit s hs k hk)
/-- Box b keeps what it holds. -/
def KeepBox (b t : Nat) (W W' : World) : Prop := ∀ v, Boxed W b t v → Boxed W' b t v
theorem keepBox_t {b t : Nat} {A B C : World} (h : KeepBox b t A B) (k : KeepBox b t B C) : KeepBox b t A C := fun v hv => k v (h v hv)
theorem keepBox_b {b t : Nat} {n : Nat} (W : World) (l : Nat) (o o' : Obj) (_ : n ≤ l) (hl : W.heap[l]? = some o) (ho : o.isCells = false) (_ : o.isWalk = false) : KeepBox b t W (W.putObj l o') :=
  fun _ hv => hv.kept (grownBy_putObj' W l o') (fun e => by cases e; rw [show W.heap[b]? = _ from hv] at hl; cases hl; cases ho)
theorem keepBox_grown {b t : Nat} {W W' : World} (h : W.grownBy W' none) : KeepBox b t W W' := fun _ hv => hv.kept h (fun e => by cases e)
theorem grown_drewN (W : World) (m : Nat) : W.grownBy (W.drewN m) none := ⟨rfl, rfl, rfl, Nat.le_refl _, fun _ _ _ => rfl⟩
theorem abides_drewN {B : Nat} {J : Nat → World → Prop} (h : AbidesFrom B J) {k : Nat} {W : World} (m : Nat) (hj : J k W) : J k (W.drewN m) := h k W _ none hj (grown_drewN W m) (fun r e => by cases e)
set_option maxRecDepth 100000 in
set_option maxHeartbeats 4000000 in
/-- The closure that bits returns yields the numbers of the three bits. -/
theorem bits_seq (n : Nat) (hn : 1 ≤ n) (b : Nat) (s : ByteArray) (hs : s.size + 2 ≤ 9223372036854775807) (w : World) (hbx : Boxed w b 9 (.string s)) :
    SeqL Fence.wide n Try.prog 53 #[.pointer (some ⟨b, 0, none⟩)] (fun k => #[.int .i64 (bitn s k)]) 3 (KeepBox b 9) w := by
  intro l J Jx W hW hJ hJx hY h0
  have hbW : Boxed W b 9 (.string s) := (hW.block b hbx.lt).trans hbx
  refine callsIn_of_wp Try.func53 rfl trivial ?_ rfl
  simp only [Try.ntmps53, List.size_toArray, List.length_cons, List.length_nil, Nat.reduceAdd, Nat.reduceSub, Array.replicate_succ, Array.replicate_zero, List.push_toArray, List.append_toArray, List.nil_append, List.cons_append]
  have i0 : ∀ w, (Instr.index 83 (.agg #[.string ⟨#[48, 58]⟩, .string ⟨#[49, 58]⟩, .string ⟨#[50, 58]⟩]) (.int .i64 0)).run Try.prog w = .ok (.string ⟨#[48, 58]⟩) w := fun _ => by kernel_rfl
  have i1 : ∀ w, (Instr.index 83 (.agg #[.string ⟨#[48, 58]⟩, .string ⟨#[49, 58]⟩, .string ⟨#[50, 58]⟩]) (.int .i64 1)).run Try.prog w = .ok (.string ⟨#[49, 58]⟩) w := fun _ => by kernel_rfl
  have i2 : ∀ w, (Instr.index 83 (.agg #[.string ⟨#[48, 58]⟩, .string ⟨#[49, 58]⟩, .string ⟨#[50, 58]⟩]) (.int .i64 2)).run Try.prog w = .ok (.string ⟨#[50, 58]⟩) w := fun _ => by kernel_rfl
  have z0 : (⟨#[48, 58]⟩ : ByteArray).size = 2 := rfl
  have z1 : (⟨#[49, 58]⟩ : ByteArray).size = 2 := rfl
  have z2 : (⟨#[50, 58]⟩ : ByteArray).size = 2 := rfl
  gi_wp2
  gi_loopw [6] (fun v6 wr => ∃ k : Nat, ((k = 0 ∧ v6 = .int .i64 0) ∨ (k = 1 ∧ v6 = .int .i64 1) ∨ (k = 2 ∧ v6 = .int .i64 2) ∨ (k = 3 ∧ v6 = .int .i64 3)) ∧ J k wr ∧ Boxed wr b 9 (.string s))
    (fun v6 _ => 3 - (intOf v6).toNat)
  case atStart => exact ⟨0, .inl ⟨rfl, rfl⟩, h0, hbW⟩
  case round =>
    obtain ⟨k, hk, hJs, hbr⟩ := hrel
    have q1 := hbr.cell
    have HJ := Aside0.mk hJs
    clear hJs
    rcases hk with ⟨rfl, rfl⟩ | ⟨rfl, rfl⟩ | ⟨rfl, rfl⟩ | ⟨rfl, rfl⟩
    · have hr := hashS_range (⟨#[48, 58]⟩ ++ s)
      have hr0 := hr.1
      gi_wp2_with fail
      refine ⟨trivial, (callsIn_wide.2 (labels_hash_calls _ (by rw [ByteArray.size_append]; show 2 + s.size ≤ _; omega) _)).mono ?_⟩
      rintro e w' ⟨rfl, ⟨m, rfl⟩⟩
      have hJn := abides_drewN hJ m HJ.out
      have hbn : Boxed (wr.drewN m) b 9 (.string s) := hbr
      generalize wr.drewN m = Wn at hJn hbn ⊢
      obtain ⟨fn, tmps, assign, body, hy, hR⟩ := hY 0 Wn (by omega) hJn
      have q1n := hbn.cell
      rw [show bitn s 0 = hashS (⟨#[48, 58]⟩ ++ s) % 256 from rfl] at hy
      gi_wp2
      refine hR.mono ?_
      rintro e W3 (⟨rfl, hJ3, hk3⟩ | ⟨rfl, hJx3⟩)
      · have HJ3 := Aside0.mk hJ3
        clear hJ3 hJn
        gi_wp2
        go_roundw
        case rel => exact ⟨1, (.inr (.inl ⟨rfl, rfl⟩)), HJ3.out, hk3 _ hbn⟩
        case measure => simp [intOf]
      · gi_wp2
        refine bodyPost_ret (results_none rfl _ _ _) rfl ?_
        exact ⟨⟨_, rfl⟩, .inr ⟨1, by omega, hJx3⟩⟩
    · have hr := hashS_range (⟨#[49, 58]⟩ ++ s)
      have hr0 := hr.1
      gi_wp2_with fail
      refine ⟨trivial, (callsIn_wide.2 (labels_hash_calls _ (by rw [ByteArray.size_append]; show 2 + s.size ≤ _; omega) _)).mono ?_⟩
      rintro e w' ⟨rfl, ⟨m, rfl⟩⟩
      have hJn := abides_drewN hJ m HJ.out
      have hbn : Boxed (wr.drewN m) b 9 (.string s) := hbr
      generalize wr.drewN m = Wn at hJn hbn ⊢
      obtain ⟨fn, tmps, assign, body, hy, hR⟩ := hY 1 Wn (by omega) hJn
      have q1n := hbn.cell
      rw [show bitn s 1 = hashS (⟨#[49, 58]⟩ ++ s) % 256 from rfl] at hy
      gi_wp2
      refine hR.mono ?_
      rintro e W3 (⟨rfl, hJ3, hk3⟩ | ⟨rfl, hJx3⟩)
      · have HJ3 := Aside0.mk hJ3
        clear hJ3 hJn
        gi_wp2
        go_roundw
        case rel => exact ⟨2, (.inr (.inr (.inl ⟨rfl, rfl⟩))), HJ3.out, hk3 _ hbn⟩
        case measure => simp [intOf]
      · gi_wp2
        refine bodyPost_ret (results_none rfl _ _ _) rfl ?_
        exact ⟨⟨_, rfl⟩, .inr ⟨2, by omega, hJx3⟩⟩
    · have hr := hashS_range (⟨#[50, 58]⟩ ++ s)
      have hr0 := hr.1
      gi_wp2_with fail
      refine ⟨trivial, (callsIn_wide.2 (labels_hash_calls _ (by rw [ByteArray.size_append]; show 2 + s.size ≤ _; omega) _)).mono ?_⟩
      rintro e w' ⟨rfl, ⟨m, rfl⟩⟩
      have hJn := abides_drewN hJ m HJ.out
      have hbn : Boxed (wr.drewN m) b 9 (.string s) := hbr
      generalize wr.drewN m = Wn at hJn hbn ⊢
      obtain ⟨fn, tmps, assign, body, hy, hR⟩ := hY 2 Wn (by omega) hJn
      have q1n := hbn.cell
      rw [show bitn s 2 = hashS (⟨#[50, 58]⟩ ++ s) % 256 from rfl] at hy
      gi_wp2
      refine hR.mono ?_
      rintro e W3 (⟨rfl, hJ3, hk3⟩ | ⟨rfl, hJx3⟩)
      · have HJ3 := Aside0.mk hJ3
        clear hJ3 hJn
        gi_wp2
        go_roundw
        case rel => exact ⟨3, (.inr (.inr (.inr ⟨rfl, rfl⟩))), HJ3.out, hk3 _ hbn⟩
        case measure => simp [intOf]
      · gi_wp2
        refine bodyPost_ret (results_none rfl _ _ _) rfl ?_
        exact ⟨⟨_, rfl⟩, .inr ⟨3, by omega, hJx3⟩⟩
    · gi_wp2
      first | (refine bodyPost_end (results_none rfl _ _ _) rfl ?_) | (refine bodyPost_ret (results_none rfl _ _ _) rfl ?_)
      exact ⟨⟨_, rfl⟩, .inl HJ.out⟩
end Go.Proofs.Ytdokabaeddaipaa.Hand
end
section
namespace Go.Proofs.Ytdokabaeddaipaa.Hand
open Go.RowKit Go.Shelf Go.Proofs.YtdokabaeddaipaaW.PrintWords Go.Proofs.YtdokabaeddaipaaW.PrintMore Go.Proofs.Ytdokabaeddaipaa.Seq Go.Proofs.Ytdokabaeddaipaa.A
attribute [local go_sem] Oper.semAt_some
set_option linter.unusedVariables false
set_option linter.unusedSimpArgs false
/-- The value of a bit in its word. -/
def bitW (n : Int) : Int := 2 ^ (n % 32).toNat % 4294967296
/-- Whether bit n is set in the words l. -/
def hasL (l : List Int) (n : Int) : Bool := !(Go.bits .and .u32 (l.getD (n / 32).toNat 0) (bitW n) == 0)
def hasZ (l : List Int) (s : ByteArray) : Bool := hasL l (bitn s 0) && (hasL l (bitn s 1) && hasL l (bitn s 2))
theorem word_cell {W : World} {b : Nat} {l1 l2 : List Value} {t : Nat} (l : List Int) (h : W.heap[b]? = some (.cells (l1 ++ l.map (Value.int .u32) ++ l2).toArray t)) (q : Nat) (hq : q < l.length) : W.cell? ⟨b, l1.length + q, none⟩ = some (.int .u32 (l.getD q 0)) := by
  rw [blk_cell h]
  have h1 : l1.length + q < (l1 ++ l.map (Value.int .u32)).length := by simp; omega
  simp only [List.getElem?_toArray]
  rw [List.getElem?_append_left h1, List.getElem?_append_right (by omega)]
  simp [List.getD_eq_getElem?_getD, hq]
theorem hasL_nat (l : List Int) (n : Nat) : hasL l (n : Int) = !(Go.bits .and .u32 (l[n / 32]?.getD 0) (2 ^ (n % 32) % 4294967296) == 0) := by
  unfold hasL bitW
  rw [show ((n : Int) / 32).toNat = n / 32 by omega, show ((n : Int) % 32).toNat = n % 32 by omega, List.getD_eq_getElem?_getD]
theorem has3_false (p : Nat → Bool) {k : Nat} (hk : k < 3) (h : p k = false) : (p 0 && (p 1 && p 2)) = false := by
  obtain rfl | rfl | rfl : k = 0 ∨ k = 1 ∨ k = 2 := by omega
  all_goals simp [h]
theorem has3_true (p : Nat → Bool) (h : ∀ j, j < 3 → p j = true) : (p 0 && (p 1 && p 2)) = true := by simp [h 0, h 1, h 2]
def lookoutref16_Has.f (a0_0 a0_1 a0_2 a0_3 a0_4 a0_5 a0_6 a0_7 a0_8 a0_9 a0_10 a0_11 a0_12 : Int) (a1 : ByteArray) : Option Bool := if a1.size + 2 ≤ 9223372036854775807 then some (hasZ [a0_5, a0_6, a0_7, a0_8, a0_9, a0_10, a0_11, a0_12] a1) else none
set_option maxRecDepth 100000 in
set_option maxHeartbeats 4000000 in
theorem lookoutref16_Has.calls (a0_0 a0_1 a0_2 a0_3 a0_4 a0_5 a0_6 a0_7 a0_8 a0_9 a0_10 a0_11 a0_12 : Int) (a1 : ByteArray) (r : Bool) (w : World) (h : lookoutref16_Has.f a0_0 a0_1 a0_2 a0_3 a0_4 a0_5 a0_6 a0_7 a0_8 a0_9 a0_10 a0_11 a0_12 a1 = some r) :
    Calls Try.prog 18 #[.agg #[.int .i64 a0_0, .int .i64 a0_1, .int .i64 a0_2, .int .i64 a0_3, .int .i64 a0_4, .int .u32 a0_5, .int .u32 a0_6, .int .u32 a0_7, .int .u32 a0_8, .int .u32 a0_9, .int .u32 a0_10, .int .u32 a0_11, .int .u32 a0_12], .string a1] w fun e w' => e = .returned (.bool r) ∧ Below w.heap.size w w' := by
  unfold lookoutref16_Has.f at h
  by_cases hs : a1.size + 2 ≤ 9223372036854775807
  · rw [if_pos hs] at h
    simp only [Option.some.injEq, hasZ] at h
    obtain ⟨zl, hzl⟩ : ∃ zl : List Int, zl = [a0_5, a0_6, a0_7, a0_8, a0_9, a0_10, a0_11, a0_12] := ⟨_, rfl⟩
    have hlen : zl.length = 8 := by rw [hzl]; rfl
    have hblk : (w.alloc (.cells #[.int .i64 a0_0, .int .i64 a0_1, .int .i64 a0_2, .int .i64 a0_3, .int .i64 a0_4, .int .u32 a0_5, .int .u32 a0_6, .int .u32 a0_7, .int .u32 a0_8, .int .u32 a0_9, .int .u32 a0_10, .int .u32 a0_11, .int .u32 a0_12] 25)).heap[w.heap.size]? = some (.cells ([Value.int .i64 a0_0, Value.int .i64 a0_1, Value.int .i64 a0_2, Value.int .i64 a0_3, Value.int .i64 a0_4] ++ zl.map (Value.int .u32) ++ []).toArray 25) := by
      rw [hzl]; exact World.alloc_heap_new w _
    rw [← hzl] at h
    have H := Aside0.mk h
    have HL := Aside0.mk hlen
    clear h hzl hlen
    go_enter Try.func18, Try.ntmps18
    go_wp2
    go_loopw [5] (fun v5 wr => ∃ k m : Nat, k ≤ 3 ∧ v5 = .int .i64 k ∧ Aside0 (∀ j, j < k → hasL zl (bitn a1 j) = true) ∧ wr = (w.alloc (.cells #[.int .i64 a0_0, .int .i64 a0_1, .int .i64 a0_2, .int .i64 a0_3, .int .i64 a0_4, .int .u32 a0_5, .int .u32 a0_6, .int .u32 a0_7, .int .u32 a0_8, .int .u32 a0_9, .int .u32 a0_10, .int .u32 a0_11, .int .u32 a0_12] 25)).drewN m)
      (fun v5 _ => 3 - (intOf v5).toNat)
    case atStart => exact ⟨0, 0, by omega, rfl, ⟨fun j hj => absurd hj (Nat.not_lt_zero j)⟩, rfl⟩
    case round =>
      obtain ⟨k, m, hk, rfl, HJ, rfl⟩ := hrel
      by_cases ck : k < 3
      · obtain ⟨n, hn, hn2⟩ : ∃ n : Nat, bitn a1 k = n ∧ n < 256 := by
          have := bitn_range a1 k
          exact ⟨(bitn a1 k).toNat, by omega, by omega⟩
        have HN := Aside0.mk hn
        have hcall := fun W => ref16_bit_calls a1 hs k ck W
        rw [hn] at hcall
        clear hn
        go_wp2_with (go_at_call 39; refine (hcall _).mono ?_; rintro e w' ⟨rfl, ⟨m2, rfl⟩⟩)
        have hc : ((w.alloc (.cells #[.int .i64 a0_0, .int .i64 a0_1, .int .i64 a0_2, .int .i64 a0_3, .int .i64 a0_4, .int .u32 a0_5, .int .u32 a0_6, .int .u32 a0_7, .int .u32 a0_8, .int .u32 a0_9, .int .u32 a0_10, .int .u32 a0_11, .int .u32 a0_12] 25)).drewN (m + m2)).cell? ⟨w.heap.size, 5 + n / 32, none⟩ = some (.int .u32 (zl.getD (n / 32) 0)) := word_cell (l1 := [Value.int .i64 a0_0, Value.int .i64 a0_1, Value.int .i64 a0_2, Value.int .i64 a0_3, Value.int .i64 a0_4]) (l2 := []) zl hblk (n / 32) (by rw [HL.out]; omega)
        have hb1 : n / 32 < 8 := by omega
        obtain ⟨W4, hW4⟩ : ∃ W4, W4 = (w.alloc (.cells #[.int .i64 a0_0, .int .i64 a0_1, .int .i64 a0_2, .int .i64 a0_3, .int .i64 a0_4, .int .u32 a0_5, .int .u32 a0_6, .int .u32 a0_7, .int .u32 a0_8, .int .u32 a0_9, .int .u32 a0_10, .int .u32 a0_11, .int .u32 a0_12] 25)).drewN (m + m2) := ⟨_, rfl⟩
        rw [← hW4] at hc ⊢
        have HW4 := Aside0.mk hW4
        clear hW4
        have hn1 := hasL_nat zl n
        cases hb : hasL zl (n : Int) with
        | false =>
          rw [hb] at hn1
          have t1 : (Go.bits .and .u32 (zl[n / 32]?.getD 0) (2 ^ (n % 32) % 4294967296) == 0) = true := by simpa using hn1.symm
          have HR : Aside0 (r = false) := ⟨by rw [← H.out]; exact has3_false (fun j => hasL zl (bitn a1 j)) ck (by rw [← hb, ← HN.out])⟩
          clear hn1 hb
          go_quiet (fail)
          go_wp2
          go_ret
          exact ⟨by rw [HR.out]; rfl, by rw [HW4.out]; exact bN (bN (bA (Below.refl _ _) _) _) _⟩
        | true =>
          rw [hb] at hn1
          have t1 : (Go.bits .and .u32 (zl[n / 32]?.getD 0) (2 ^ (n % 32) % 4294967296) == 0) = false := by simpa using hn1.symm
          have HR := Aside0.mk hb
          clear hn1 hb
          go_quiet (fail)
          go_wp2
          go_roundw
          case rel => exact ⟨k + 1, m + m2 + nq, by omega, by go_num, ⟨fun j hj => by
            rcases Nat.lt_or_ge j k with h | h
            · exact HJ.out j h
            · obtain rfl : j = k := by omega
              rw [HN.out]; exact HR.out⟩, by rw [HW4.out]; simp [World.drewN, Nat.add_assoc]⟩
          case measure => simp [intOf]; omega
      · obtain rfl : k = 3 := by omega
        go_wp2
        go_ret
        exact ⟨by rw [← H.out]; rw [has3_true (fun j => hasL zl (bitn a1 j)) HJ.out]; rfl, bN (bA (Below.refl _ _) _) _⟩
  · rw [if_neg hs] at h; cases h
theorem box_kept {Bnd : Nat} {X Y : World} {row : Option Nat} {b t : Nat} {v : Value} (h : Boxed X b t v) (hg : X.grownBy Y row) (hr : ∀ r, row = some r → Bnd ≤ r ∧ ∃ o : Obj, X.heap[r]? = some o ∧ o.isCells = false) : Boxed Y b t v :=
  h.kept hg (fun e => by
    obtain ⟨_, o, ho, hc⟩ := hr b e.symm
    rw [show X.heap[b]? = _ from h] at ho
    cases ho; cases hc)
theorem below_kept {Bnd n₀ : Nat} {w X Y : World} {row : Option Nat} (h : Below n₀ w X) (hn : n₀ ≤ w.heap.size) (hB : n₀ ≤ Bnd) (hg : X.grownBy Y row) (hr : ∀ r, row = some r → Bnd ≤ r ∧ ∃ o : Obj, X.heap[r]? = some o ∧ o.isCells = false) : Below n₀ w Y :=
  h.grown hg (Nat.le_trans hn h.size) (fun k e => Nat.le_trans hB (hr k e).1)
theorem box_other {W : World} {b c t : Nat} {v : Value} (h : Boxed W b t v) (hc : b ≠ c) (u : Value) : Boxed (W.setCell ⟨c, 0, none⟩ u) b t v :=
  h.kept (grownBy_setCell' W c u) (fun e => by cases e; exact hc rfl)
theorem box_shut {W : World} {b t D : Nat} {v : Value} (h : Boxed W b t v) (hK : W.heap[D]? = some (.deferred (some []))) : Boxed (W.putObj D (.deferred none)) b t v :=
  box_kept (Bnd := 0) h (grownBy_putObj' W D (.deferred none)) (fun r e => by cases e; exact ⟨Nat.zero_le _, _, hK, rfl⟩)
theorem below_shut {w W : World} {D n₀ : Nat} (h : Below n₀ w W) (hn : n₀ ≤ w.heap.size) (hD : n₀ ≤ D) (hK : W.heap[D]? = some (.deferred (some []))) : Below n₀ w (W.putObj D (.deferred none)) :=
  below_kept (Bnd := D) h hn hD (grownBy_putObj' W D (.deferred none)) (fun r e => by cases e; exact ⟨Nat.le_refl _, _, hK, rfl⟩)
/-- What lies in a block of cells. -/
def BlkAt (W : World) (b t : Nat) (cs : List Value) : Prop := W.heap[b]? = some (.cells cs.toArray t)
theorem BlkAt.lt {W : World} {b t : Nat} {cs : List Value} (h : BlkAt W b t cs) : b < W.heap.size := (Array.getElem?_eq_some_iff.1 h).1
theorem blk_kept {Bnd : Nat} {X Y : World} {row : Option Nat} {b t : Nat} {cs : List Value} (h : BlkAt X b t cs) (hg : X.grownBy Y row) (hr : ∀ r, row = some r → Bnd ≤ r ∧ ∃ o : Obj, X.heap[r]? = some o ∧ o.isCells = false) : BlkAt Y b t cs := by
  obtain ⟨_, _, _, _, hg5⟩ := hg
  refine (hg5 b h.lt (fun e => ?_)).trans h
  obtain ⟨_, o, ho, hc⟩ := hr b (by first | exact e | exact e.symm)
  rw [show X.heap[b]? = _ from h] at ho
  cases ho; cases hc
theorem keepsFrom_drewN (B : Nat) (W : World) (n : Nat) : KeepsFrom B W (W.drewN n) := ⟨Nat.le_refl _, fun _ _ _ h _ => h⟩
theorem boxed_new (W : World) (v : Value) (t : Nat) : Boxed (W.alloc (.cells #[v] t)) W.heap.size t v := Boxed.new W t v
theorem blk_word {W : World} {b t : Nat} {l1 l2 : List Value} {l : List Int} (h : BlkAt W b t (l1 ++ l.map (Value.int .u32) ++ l2)) (q : Nat) (hq : q < l.length) : W.cell? ⟨b, l1.length + q, none⟩ = some (.int .u32 (l.getD q 0)) := word_cell l h q hq
set_option maxHeartbeats 1000000 in
theorem bits_in (n : Nat) (s : ByteArray) (w : World) :
    CallsIn Fence.wide n Try.prog 37 #[.string s] w fun e w' => e = .returned (.func (.func 53) #[] #[.pointer (some ⟨w.heap.size, 0, none⟩)]) ∧ w' = w.alloc (.cells #[.string s] 9) := by
  refine callsIn_of_wp Try.func37 rfl trivial ?_ rfl
  simp only [Try.ntmps37, List.size_toArray, List.length_cons, List.length_nil, Nat.reduceAdd, Nat.reduceSub, Array.replicate_succ, Array.replicate_zero, List.push_toArray, List.append_toArray, List.nil_append, List.cons_append]
  gi_wp2
  go_ret
  exact ⟨rfl, rfl⟩
def zonemap_Has.f (a0_0 a0_1 a0_2 a0_3 a0_4 a0_5 a0_6 a0_7 a0_8 a0_9 a0_10 a0_11 a0_12 : Int) (a1 : ByteArray) : Option Bool := if a1.size + 2 ≤ 9223372036854775807 then some (hasZ [a0_5, a0_6, a0_7, a0_8, a0_9, a0_10, a0_11, a0_12] a1) else none
set_option maxRecDepth 100000 in
set_option maxHeartbeats 4000000 in
theorem zonemap_Has.calls (a0_0 a0_1 a0_2 a0_3 a0_4 a0_5 a0_6 a0_7 a0_8 a0_9 a0_10 a0_11 a0_12 : Int) (a1 : ByteArray) (r : Bool) (w : World) (h : zonemap_Has.f a0_0 a0_1 a0_2 a0_3 a0_4 a0_5 a0_6 a0_7 a0_8 a0_9 a0_10 a0_11 a0_12 a1 = some r) :
    Calls Try.prog 17 #[.agg #[.int .i64 a0_0, .int .i64 a0_1, .int .i64 a0_2, .int .i64 a0_3, .int .i64 a0_4, .int .u32 a0_5, .int .u32 a0_6, .int .u32 a0_7, .int .u32 a0_8, .int .u32 a0_9, .int .u32 a0_10, .int .u32 a0_11, .int .u32 a0_12], .string a1] w fun e w' => e = .returned (.bool r) ∧ Below w.heap.size w w' := by
  unfold zonemap_Has.f at h
  by_cases hs : a1.size + 2 ≤ 9223372036854775807
  · rw [if_pos hs] at h
    simp only [Option.some.injEq, hasZ] at h
    obtain ⟨zl, hzl⟩ : ∃ zl : List Int, zl = [a0_5, a0_6, a0_7, a0_8, a0_9, a0_10, a0_11, a0_12] := ⟨_, rfl⟩
    have hlen : zl.length = 8 := by rw [hzl]; rfl
    have hblk : BlkAt (w.alloc (.cells #[.int .i64 a0_0, .int .i64 a0_1, .int .i64 a0_2, .int .i64 a0_3, .int .i64 a0_4, .int .u32 a0_5, .int .u32 a0_6, .int .u32 a0_7, .int .u32 a0_8, .int .u32 a0_9, .int .u32 a0_10, .int .u32 a0_11, .int .u32 a0_12] 25)) w.heap.size 25 ([Value.int .i64 a0_0, Value.int .i64 a0_1, Value.int .i64 a0_2, Value.int .i64 a0_3, Value.int .i64 a0_4] ++ zl.map (Value.int .u32) ++ []) := by
      rw [hzl]; exact World.alloc_heap_new w _
    rw [← hzl] at h
    have H := Aside0.mk h
    have HL := Aside0.mk hlen
    clear h hzl hlen
    refine (callsIn_wide (n := 4)).1 ?_
    refine callsIn_of_wp_marks Try.func17 rfl trivial ?_ rfl
    simp only [Try.ntmps17, List.size_toArray, List.length_cons, List.length_nil, Nat.reduceAdd, Nat.reduceSub, Array.replicate_succ, Array.replicate_zero, List.push_toArray, List.append_toArray, List.nil_append, List.cons_append]
    gi_wp2_with fail
    refine ⟨trivial, (bits_in _ _ _).mono ?_⟩
    rintro e w' ⟨rfl, rfl⟩
    gi_wp2
    have b1 := Boxed.new (w.alloc (.cells #[.int .i64 a0_0, .int .i64 a0_1, .int .i64 a0_2, .int .i64 a0_3, .int .i64 a0_4, .int .u32 a0_5, .int .u32 a0_6, .int .u32 a0_7, .int .u32 a0_8, .int .u32 a0_9, .int .u32 a0_10, .int .u32 a0_11, .int .u32 a0_12] 25)) 4 (.bool false)
    have b2 := Boxed.new ((w.alloc (.cells #[.int .i64 a0_0, .int .i64 a0_1, .int .i64 a0_2, .int .i64 a0_3, .int .i64 a0_4, .int .u32 a0_5, .int .u32 a0_6, .int .u32 a0_7, .int .u32 a0_8, .int .u32 a0_9, .int .u32 a0_10, .int .u32 a0_11, .int .u32 a0_12] 25)).alloc (.cells #[.bool false] 4)) 9 (.string a1)
    simp only [World.size_alloc] at b1 b2
    have hB0 : Below w.heap.size w (((w.alloc (.cells #[.int .i64 a0_0, .int .i64 a0_1, .int .i64 a0_2, .int .i64 a0_3, .int .i64 a0_4, .int .u32 a0_5, .int .u32 a0_6, .int .u32 a0_7, .int .u32 a0_8, .int .u32 a0_9, .int .u32 a0_10, .int .u32 a0_11, .int .u32 a0_12] 25)).alloc (.cells #[.bool false] 4)).alloc (.cells #[.string a1] 9)) := bA (bA (bA (Below.refl _ _) _) _) _
    have hZ0 : BlkAt (((w.alloc (.cells #[.int .i64 a0_0, .int .i64 a0_1, .int .i64 a0_2, .int .i64 a0_3, .int .i64 a0_4, .int .u32 a0_5, .int .u32 a0_6, .int .u32 a0_7, .int .u32 a0_8, .int .u32 a0_9, .int .u32 a0_10, .int .u32 a0_11, .int .u32 a0_12] 25)).alloc (.cells #[.bool false] 4)).alloc (.cells #[.string a1] 9)) w.heap.size 25 ([Value.int .i64 a0_0, Value.int .i64 a0_1, Value.int .i64 a0_2, Value.int .i64 a0_3, Value.int .i64 a0_4] ++ zl.map (Value.int .u32) ++ []) :=
      (Below.heap_alloc _ _ _ (by simp; omega)).trans ((Below.heap_alloc _ _ _ (by simp)).trans hblk)
    refine rangeFunc_L (F := Fence.wide) rfl (by omega) (gf := 53) (lb := #[.pointer (some ⟨w.heap.size + 1 + 1, 0, none⟩)]) rfl trivial (enters_of Try.func53 (by kernel_rfl) rfl)
      (bits_seq (4 - 1) (by omega) _ a1 hs _ b2) keepBox_t (fun W l o o' hl ho h1 h2 => keepBox_b W l o o' hl ho h1 h2) (Below.refl _ _) (fun _ => rfl)
      (fun k W => Aside0 (∀ j, j < k → hasL zl (bitn a1 j) = true) ∧ BlkAt W w.heap.size 25 ([Value.int .i64 a0_0, Value.int .i64 a0_1, Value.int .i64 a0_2, Value.int .i64 a0_3, Value.int .i64 a0_4] ++ zl.map (Value.int .u32) ++ []) ∧ Boxed W (w.heap.size + 1) 4 (.bool false) ∧ Below w.heap.size w W)
      (fun c k W => c = .ret ∧ Aside0 (r = false) ∧ Boxed W (w.heap.size + 1) 4 (.bool false) ∧ Below w.heap.size w W)
      (fun s X Y row hs hg hr => by
        obtain ⟨h1, h2, h3, h4⟩ := hs
        exact ⟨h1, blk_kept h2 hg hr, box_kept h3 hg hr, below_kept h4 (Nat.le_refl _) (by simp; omega) hg hr⟩)
      (fun c s X Y row hs hg hr => by
        obtain ⟨h0, h1, h3, h4⟩ := hs
        exact ⟨h0, h1, box_kept h3 hg hr, below_kept h4 (Nat.le_refl _) (by simp; omega) hg hr⟩)
      ⟨⟨fun j hj => absurd hj (Nat.not_lt_zero j)⟩, hZ0, b1.alloc _, hB0⟩
      (fun k => { tmps := #[.agg #[.int .i64 a0_0, .int .i64 a0_1, .int .i64 a0_2, .int .i64 a0_3, .int .i64 a0_4, .int .u32 a0_5, .int .u32 a0_6, .int .u32 a0_7, .int .u32 a0_8, .int .u32 a0_9, .int .u32 a0_10, .int .u32 a0_11, .int .u32 a0_12], .string a1, .pointer (some ⟨w.heap.size, 0, none⟩), undef, .pointer (some ⟨w.heap.size + 1, 0, none⟩), .int .i64 (bitn a1 k), .string a1, .func (.func 53) #[] #[.pointer (some ⟨w.heap.size + 1 + 1, 0, none⟩)], .int .i64 (bitn a1 k), undef, undef, undef, undef, undef, undef, undef, undef, undef, undef], defers := [] }) ?assign ?body ?done ?stop
    case assign =>
      intro l k W K hk hK
      gi_wp2
      exact hK
    case body =>
      rintro l k W hk ⟨h1, h2, h3, h4⟩
      obtain ⟨n, hn, hn2⟩ : ∃ n : Nat, bitn a1 k = n ∧ n < 256 := by
        have := bitn_range a1 k
        exact ⟨(bitn a1 k).toNat, by omega, by omega⟩
      rw [hn]
      have HN := Aside0.mk hn
      clear hn
      have hc : W.cell? ⟨w.heap.size, 5 + n / 32, none⟩ = some (.int .u32 (zl.getD (n / 32) 0)) := blk_word h2 (n / 32) (by rw [HL.out]; omega)
      have hb1 : n / 32 < 8 := by omega
      have hn1 := hasL_nat zl n
      have c3 := h3.cell
      have f3 := h3.frozen
      cases hb : hasL zl (n : Int) with
      | false =>
        rw [hb] at hn1
        have t1 : (Go.bits .and .u32 (zl[n / 32]?.getD 0) (2 ^ (n % 32) % 4294967296) == 0) = true := by simpa using hn1.symm
        have HR : Aside0 (r = false) := ⟨by rw [← H.out]; exact has3_false (fun j => hasL zl (bitn a1 j)) hk (by rw [← hb, ← HN.out])⟩
        clear hn1 hb
        gi_wp2
        refine round_quiet (by kernel_rfl) (by kernel_rfl) (by kernel_rfl) (fun ⟨_, _, h⟩ => h) ?_
        repeat (first | go_big_quiet_step (fail) | quiet_step (fail))
        refine wpQuiet_nil ?_
        intro _ hw'
        obtain ⟨nq, hw''⟩ := hw'
        subst hw''
        gi_wp2
        exact ⟨(keepsFrom_drewN _ _ _).trans ((KeepsOthers.setCell _ _ _).from _), rfl, HR, (show Boxed (W.drewN nq) _ _ _ from h3).set _, (bN h4 nq).setCell (p := ⟨_, 0, none⟩) (by simp) _⟩
      | true =>
        rw [hb] at hn1
        have t1 : (Go.bits .and .u32 (zl[n / 32]?.getD 0) (2 ^ (n % 32) % 4294967296) == 0) = false := by simpa using hn1.symm
        have HR := Aside0.mk hb
        clear hn1 hb
        gi_wp2
        refine round_quiet (by kernel_rfl) (by kernel_rfl) (by kernel_rfl) (fun ⟨_, _, h⟩ => h) ?_
        repeat (first | go_big_quiet_step (fail) | quiet_step (fail))
        refine wpQuiet_nil ?_
        intro _ hw'
        obtain ⟨nq, hw''⟩ := hw'
        subst hw''
        gi_wp2
        exact ⟨keepsFrom_drewN _ _ _, keepBox_grown (grown_drewN _ _), ⟨fun j hj => by
          rcases Nat.lt_or_ge j k with h | h
          · exact h1.out j h
          · obtain rfl : j = k := by omega
            rw [HN.out]; exact HR.out⟩, h2, h3, bN h4 _⟩
    case done =>
      rintro D W hD ⟨h1, h2, h3, h4⟩ hK
      have hr : r = true := by rw [← H.out]; exact has3_true (fun j => hasL zl (bitn a1 j)) h1.out
      subst hr
      have c3 := h3.cell
      have f3 := h3.frozen
      have hD' : w.heap.size ≤ D := by simp at hD; omega
      clear hD
      gi_wp2
      have hK' := (KeepsOthers.setCell W ⟨w.heap.size + 1, 0, none⟩ (.bool true)).same D _ hK rfl
      have g9 := (box_shut (h3.set (.bool true)) hK').cell
      refine ⟨by simp, .inl ⟨_, _, rfl, run_takeDeferred hK', ?_⟩⟩
      refine ⟨.bool true, ?_, rfl, below_shut (h4.setCell (p := ⟨_, 0, none⟩) (by simp) _) (Nat.le_refl _) hD' hK'⟩
      simp [results, Try.f17, go_sem, g9]
    case stop =>
      rintro D c k W hD hk ⟨rfl, h1, h3, h4⟩ hK
      have hr : r = false := h1.out
      subst hr
      have hD' : w.heap.size ≤ D := by simp at hD; omega
      clear hD
      gi_wp2
      have g9 := (box_shut h3 hK).cell
      refine ⟨by simp, .inl ⟨_, _, rfl, run_takeDeferred hK, ?_⟩⟩
      refine ⟨.bool false, ?_, rfl, below_shut h4 (Nat.le_refl _) hD' hK⟩
      simp [results, Try.f17, go_sem, g9]
  · rw [if_neg hs] at h; cases h
end Go.Proofs.Ytdokabaeddaipaa.Hand
end
section
namespace Go.Proofs.Ytdokabaeddaipaa.Hand
open Go.RowKit Go.Shelf Go.Proofs.YtdokabaeddaipaaW.PrintWords Go.Proofs.YtdokabaeddaipaaW.PrintMore Go.Proofs.YtdokabaeddaipaaW.PrintLast Go.Proofs.Ytdokabaeddaipaa.Seq Go.Proofs.Ytdokabaeddaipaa.A
theorem max2_mx (k k' : IntKind) (x y : Int) : Builtin.max2 (.int k x) (.int k' y) = pure (.int k (mx x y)) := max2_int k k' x y
theorem min2_mn (k k' : IntKind) (x y : Int) : Builtin.min2 (.int k x) (.int k' y) = pure (.int k (mn x y)) := min2_int k k' x y
attribute [local go_sem] Oper.semAt_some max2_mx min2_mn max_two min_two
set_option linter.unusedVariables false
set_option linter.unusedSimpArgs false
theorem eqZ8 (d : Nat) (w : World) (x0 x1 x2 x3 x4 x5 x6 x7 y0 y1 y2 y3 y4 y5 y6 y7 : Int) :
    (Op.equalIn (d + 2) 23 (.agg #[.int .u32 x0, .int .u32 x1, .int .u32 x2, .int .u32 x3, .int .u32 x4, .int .u32 x5, .int .u32 x6, .int .u32 x7]) (.agg #[.int .u32 y0, .int .u32 y1, .int .u32 y2, .int .u32 y3, .int .u32 y4, .int .u32 y5, .int .u32 y6, .int .u32 y7])).run Try.prog w = .ok (x0 == y0 && (x1 == y1 && (x2 == y2 && (x3 == y3 && (x4 == y4 && (x5 == y5 && (x6 == y6 && (x7 == y7)))))))) w := by
  refine eqArr_of (l := [0, 1, 2, 3, 4, 5, 6, 7]) Try.underlying23 (by kernel_rfl) (show Try.prog.cellsOf 22 = 1 by kernel_rfl) rfl ?_
  iterate 7 refine eqi_cons (by go_simp; rfl) (by go_simp; rfl) (by go_simp) ?_
  exact eqi_last (by go_simp; rfl) (by go_simp; rfl) (by go_simp)
theorem eqZ (d : Nat) (w : World) (x0 x1 x2 x3 x4 x5 x6 x7 x8 x9 x10 x11 x12 y0 y1 y2 y3 y4 y5 y6 y7 y8 y9 y10 y11 y12 : Int) :
    (Op.equalIn (d + 3) 25 (.agg #[.int .i64 x0, .int .i64 x1, .int .i64 x2, .int .i64 x3, .int .i64 x4, .int .u32 x5, .int .u32 x6, .int .u32 x7, .int .u32 x8, .int .u32 x9, .int .u32 x10, .int .u32 x11, .int .u32 x12]) (.agg #[.int .i64 y0, .int .i64 y1, .int .i64 y2, .int .i64 y3, .int .i64 y4, .int .u32 y5, .int .u32 y6, .int .u32 y7, .int .u32 y8, .int .u32 y9, .int .u32 y10, .int .u32 y11, .int .u32 y12])).run Try.prog w = .ok (x0 == y0 && (x1 == y1 && (x2 == y2 && (x3 == y3 && (x4 == y4 && ((x5 == y5 && (x6 == y6 && (x7 == y7 && (x8 == y8 && (x9 == y9 && (x10 == y10 && (x11 == y11 && (x12 == y12)))))))))))))) w := by
  refine eqA_of Try.underlying25 (by kernel_rfl) ?_
  iterate 5 refine eqf_cons (by rfl) (by go_simp; rfl) (by go_simp; rfl) (by go_simp) ?_
  exact eqf_last (by rfl) (by go_simp) (by go_simp) (eqZ8 (d + 0) w _ _ _ _ _ _ _ _ _ _ _ _ _ _ _ _)
attribute [local go_sem high] eqZ
/-- Whether a zone is the zero zone. -/
def zeroB (x0 x1 x2 x3 x4 x5 x6 x7 x8 x9 x10 x11 x12 : Int) : Bool := x0 == 0 && (x1 == 0 && (x2 == 0 && (x3 == 0 && (x4 == 0 && (x5 == 0 && (x6 == 0 && (x7 == 0 && (x8 == 0 && (x9 == 0 && (x10 == 0 && (x11 == 0 && x12 == 0)))))))))))
def orL (la lb : List Int) : List Int := List.zipWith (fun x y => Go.bits .or .u32 x y) la lb
/-- The first k words merged. -/
def orK (k : Nat) (la lb : List Int) : List Int := orL (la.take k) (lb.take k) ++ la.drop k
theorem orK_get {la lb : List Int} (ha : la.length = 8) (hb : lb.length = 8) {k : Nat} (hk : k < 8) : (orK k la lb).getD k 0 = la.getD k 0 := by
  have h1 : (orL (la.take k) (lb.take k)).length = k := by simp [orL]; omega
  unfold orK
  rw [List.getD_eq_getElem?_getD, List.getD_eq_getElem?_getD, List.getElem?_append_right (by omega), h1, Nat.sub_self, List.getElem?_drop, Nat.add_zero]
theorem orK_succ {la lb : List Int} (ha : la.length = 8) (hb : lb.length = 8) {k : Nat} (hk : k < 8) : (orK k la lb).set k (Go.bits .or .u32 (la.getD k 0) (lb.getD k 0)) = orK (k + 1) la lb := by
  have h1 : (orL (la.take k) (lb.take k)).length = k := by simp [orL]; omega
  unfold orK
  rw [List.set_append_right _ _ (by omega), h1, Nat.sub_self, List.take_succ_eq_append_getElem (by omega), List.take_succ_eq_append_getElem (l := lb) (by omega)]
  unfold orL
  rw [List.zipWith_append (by simp; omega), List.append_assoc]
  congr 1
  rw [List.drop_eq_getElem_cons (by omega : k < la.length), List.set_cons_zero]
  simp [List.getD_eq_getElem?_getD, ha, hb, hk]
theorem orK_zero (la lb : List Int) : orK 0 la lb = la := by simp [orK, orL]
theorem orK_all {la lb : List Int} (ha : la.length = 8) (hb : lb.length = 8) : orK 8 la lb = orL la lb := by
  unfold orK
  rw [List.take_of_length_le (by omega), List.take_of_length_le (by omega), List.drop_of_length_le (by omega), List.append_nil]
theorem orK_length {la lb : List Int} (ha : la.length = 8) (hb : lb.length = 8) {k : Nat} (hk : k ≤ 8) : (orK k la lb).length = 8 := by
  simp [orK, orL]; omega
/-- The cells of a zone. -/
def zcells (l1 : List Value) (l : List Int) : Array Value := (l1 ++ l.map (Value.int .u32)).toArray
theorem zcells_cell {W : World} {b t : Nat} {l1 : List Value} {l : List Int} (h : W.heap[b]? = some (.cells (zcells l1 l) t)) {q : Nat} (hq : q < l.length) : W.cell? ⟨b, l1.length + q, none⟩ = some (.int .u32 (l.getD q 0)) := by
  have := word_cell (l2 := []) l (by rw [List.append_nil]; exact h) q hq
  exact this
theorem zcells_set {l1 : List Value} {l : List Int} {q : Nat} (x : Int) : (zcells l1 l).setIfInBounds (l1.length + q) (.int .u32 x) = zcells l1 (l.set q x) := by
  unfold zcells
  rw [List.setIfInBounds_toArray, List.set_append_right _ _ (by omega), Nat.add_sub_cancel_left, List.map_set]
def zonemap_join.f (a0_0 a0_1 a0_2 a0_3 a0_4 a0_5 a0_6 a0_7 a0_8 a0_9 a0_10 a0_11 a0_12 a1_0 a1_1 a1_2 a1_3 a1_4 a1_5 a1_6 a1_7 a1_8 a1_9 a1_10 a1_11 a1_12 : Int) : Option (Int × Int × Int × Int × Int × Int × Int × Int × Int × Int × Int × Int × Int) :=
  some (if zeroB a0_0 a0_1 a0_2 a0_3 a0_4 a0_5 a0_6 a0_7 a0_8 a0_9 a0_10 a0_11 a0_12 = true then (a1_0, a1_1, a1_2, a1_3, a1_4, a1_5, a1_6, a1_7, a1_8, a1_9, a1_10, a1_11, a1_12) else if zeroB a1_0 a1_1 a1_2 a1_3 a1_4 a1_5 a1_6 a1_7 a1_8 a1_9 a1_10 a1_11 a1_12 = true then (a0_0, a0_1, a0_2, a0_3, a0_4, a0_5, a0_6, a0_7, a0_8, a0_9, a0_10, a0_11, a0_12)
    else (mn (wrap64 (a0_0 + a1_0)) 1152921504606846976, mn a0_1 a1_1, mx a0_2 a1_2, mn a0_3 a1_3, mx a0_4 a1_4, Go.bits .or .u32 a0_5 a1_5, Go.bits .or .u32 a0_6 a1_6, Go.bits .or .u32 a0_7 a1_7, Go.bits .or .u32 a0_8 a1_8, Go.bits .or .u32 a0_9 a1_9, Go.bits .or .u32 a0_10 a1_10, Go.bits .or .u32 a0_11 a1_11, Go.bits .or .u32 a0_12 a1_12))
set_option maxRecDepth 100000 in
set_option maxHeartbeats 4000000 in
theorem zonemap_join.calls (a0_0 a0_1 a0_2 a0_3 a0_4 a0_5 a0_6 a0_7 a0_8 a0_9 a0_10 a0_11 a0_12 a1_0 a1_1 a1_2 a1_3 a1_4 a1_5 a1_6 a1_7 a1_8 a1_9 a1_10 a1_11 a1_12 : Int) (r1 r2 r3 r4 r5 r6 r7 r8 r9 r10 r11 r12 r13 : Int) (w : World) (h : zonemap_join.f a0_0 a0_1 a0_2 a0_3 a0_4 a0_5 a0_6 a0_7 a0_8 a0_9 a0_10 a0_11 a0_12 a1_0 a1_1 a1_2 a1_3 a1_4 a1_5 a1_6 a1_7 a1_8 a1_9 a1_10 a1_11 a1_12 = some (r1, r2, r3, r4, r5, r6, r7, r8, r9, r10, r11, r12, r13)) :
    Calls Try.prog 38 #[.agg #[.int .i64 a0_0, .int .i64 a0_1, .int .i64 a0_2, .int .i64 a0_3, .int .i64 a0_4, .int .u32 a0_5, .int .u32 a0_6, .int .u32 a0_7, .int .u32 a0_8, .int .u32 a0_9, .int .u32 a0_10, .int .u32 a0_11, .int .u32 a0_12], .agg #[.int .i64 a1_0, .int .i64 a1_1, .int .i64 a1_2, .int .i64 a1_3, .int .i64 a1_4, .int .u32 a1_5, .int .u32 a1_6, .int .u32 a1_7, .int .u32 a1_8, .int .u32 a1_9, .int .u32 a1_10, .int .u32 a1_11, .int .u32 a1_12]] w fun e w' => e = .returned (.agg #[.int .i64 r1, .int .i64 r2, .int .i64 r3, .int .i64 r4, .int .i64 r5, .int .u32 r6, .int .u32 r7, .int .u32 r8, .int .u32 r9, .int .u32 r10, .int .u32 r11, .int .u32 r12, .int .u32 r13]) ∧ Below w.heap.size w w' := by
  simp only [zonemap_join.f, Option.some.injEq] at h
  cases hz : zeroB a0_0 a0_1 a0_2 a0_3 a0_4 a0_5 a0_6 a0_7 a0_8 a0_9 a0_10 a0_11 a0_12 with
  | true =>
    rw [hz, if_pos rfl] at h
    simp only [Prod.mk.injEq] at h
    obtain ⟨rfl, rfl, rfl, rfl, rfl, rfl, rfl, rfl, rfl, rfl, rfl, rfl, rfl⟩ := h
    unfold zeroB at hz
    go_enter Try.func38, Try.ntmps38
    go_wp2
    exact bodyPost_ret (v := .agg #[.int .i64 a1_0, .int .i64 a1_1, .int .i64 a1_2, .int .i64 a1_3, .int .i64 a1_4, .int .u32 a1_5, .int .u32 a1_6, .int .u32 a1_7, .int .u32 a1_8, .int .u32 a1_9, .int .u32 a1_10, .int .u32 a1_11, .int .u32 a1_12]) (by simp [results, Try.results38, go_sem]) rfl ⟨rfl, bA (bA (bA (Below.refl _ _) _) _) _⟩
  | false =>
    cases hy : zeroB a1_0 a1_1 a1_2 a1_3 a1_4 a1_5 a1_6 a1_7 a1_8 a1_9 a1_10 a1_11 a1_12 with
    | true =>
      rw [hz, if_neg (by decide), hy, if_pos rfl] at h
      simp only [Prod.mk.injEq] at h
      obtain ⟨rfl, rfl, rfl, rfl, rfl, rfl, rfl, rfl, rfl, rfl, rfl, rfl, rfl⟩ := h
      unfold zeroB at hz hy
      go_enter Try.func38, Try.ntmps38
      go_wp2
      exact bodyPost_ret (v := .agg #[.int .i64 a0_0, .int .i64 a0_1, .int .i64 a0_2, .int .i64 a0_3, .int .i64 a0_4, .int .u32 a0_5, .int .u32 a0_6, .int .u32 a0_7, .int .u32 a0_8, .int .u32 a0_9, .int .u32 a0_10, .int .u32 a0_11, .int .u32 a0_12]) (by simp [results, Try.results38, go_sem]) rfl ⟨rfl, bA (bA (bA (Below.refl _ _) _) _) _⟩
    | false =>
      rw [hz, if_neg (by decide), hy, if_neg (by decide)] at h
      simp only [Prod.mk.injEq] at h
      obtain ⟨rfl, rfl, rfl, rfl, rfl, rfl, rfl, rfl, rfl, rfl, rfl, rfl, rfl⟩ := h
      unfold zeroB at hz hy
      obtain ⟨la, hla⟩ : ∃ la : List Int, la = [a0_5, a0_6, a0_7, a0_8, a0_9, a0_10, a0_11, a0_12] := ⟨_, rfl⟩
      obtain ⟨lb, hlb⟩ : ∃ lb : List Int, lb = [a1_5, a1_6, a1_7, a1_8, a1_9, a1_10, a1_11, a1_12] := ⟨_, rfl⟩
      have HLA := Aside0.mk (show la.length = 8 by rw [hla]; rfl)
      have HLB := Aside0.mk (show lb.length = 8 by rw [hlb]; rfl)
      have HA := Aside0.mk hla
      have HB := Aside0.mk hlb
      clear hla hlb
      go_enter Try.func38, Try.ntmps38
      go_wp2
      have hla := HA.out
      have hcs : #[.int .i64 (mn (wrap64 (a0_0 + a1_0)) 1152921504606846976), .int .i64 (mn a0_1 a1_1), .int .i64 (mx a0_2 a1_2), .int .i64 (mn a0_3 a1_3), .int .i64 (mx a0_4 a1_4), Value.int .u32 a0_5, Value.int .u32 a0_6, Value.int .u32 a0_7, Value.int .u32 a0_8, Value.int .u32 a0_9, Value.int .u32 a0_10, Value.int .u32 a0_11, Value.int .u32 a0_12] = zcells [.int .i64 (mn (wrap64 (a0_0 + a1_0)) 1152921504606846976), .int .i64 (mn a0_1 a1_1), .int .i64 (mx a0_2 a1_2), .int .i64 (mn a0_3 a1_3), .int .i64 (mx a0_4 a1_4)] (orK 0 la lb) := by
        rw [orK_zero, hla]; rfl
      clear hla
      obtain ⟨l1, hl1⟩ : ∃ l1 : List Value, l1 = [.int .i64 (mn (wrap64 (a0_0 + a1_0)) 1152921504606846976), .int .i64 (mn a0_1 a1_1), .int .i64 (mx a0_2 a1_2), .int .i64 (mn a0_3 a1_3), .int .i64 (mx a0_4 a1_4)] := ⟨_, rfl⟩
      rw [← hl1] at hcs
      have HL1 := Aside0.mk hl1
      have HL15 : Aside0 (l1.length = 5) := ⟨by rw [hl1]; rfl⟩
      clear hl1
      rw [hcs]
      clear hcs
      go_loopw [47] (fun v47 wr => ∃ k : Nat, k ≤ 8 ∧ v47 = .int .i64 k ∧ wr = (((w.alloc (.cells #[.int .i64 a0_0, .int .i64 a0_1, .int .i64 a0_2, .int .i64 a0_3, .int .i64 a0_4, .int .u32 a0_5, .int .u32 a0_6, .int .u32 a0_7, .int .u32 a0_8, .int .u32 a0_9, .int .u32 a0_10, .int .u32 a0_11, .int .u32 a0_12] 25)).alloc (.cells #[.int .i64 a1_0, .int .i64 a1_1, .int .i64 a1_2, .int .i64 a1_3, .int .i64 a1_4, .int .u32 a1_5, .int .u32 a1_6, .int .u32 a1_7, .int .u32 a1_8, .int .u32 a1_9, .int .u32 a1_10, .int .u32 a1_11, .int .u32 a1_12] 25)).alloc (.cells #[.int .i64 0, .int .i64 0, .int .i64 0, .int .i64 0, .int .i64 0, .int .u32 0, .int .u32 0, .int .u32 0, .int .u32 0, .int .u32 0, .int .u32 0, .int .u32 0, .int .u32 0] 25)).alloc (.cells (zcells l1 (orK k la lb)) 25))
        (fun v47 _ => 8 - (intOf v47).toNat)
      case atStart => exact ⟨0, by omega, rfl, rfl⟩
      case round =>
        obtain ⟨k, hk, rfl, rfl⟩ := hrel
        by_cases ck : k < 8
        · have hidx : ∀ W : World, (Instr.index 23 (.agg #[.int .u32 a1_5, .int .u32 a1_6, .int .u32 a1_7, .int .u32 a1_8, .int .u32 a1_9, .int .u32 a1_10, .int .u32 a1_11, .int .u32 a1_12]) (.int .i64 (k : Int))).run Try.prog W = .ok (.int .u32 (lb.getD k 0)) W := by
            rw [HB.out]
            obtain rfl | rfl | rfl | rfl | rfl | rfl | rfl | rfl : k = 0 ∨ k = 1 ∨ k = 2 ∨ k = 3 ∨ k = 4 ∨ k = 5 ∨ k = 6 ∨ k = 7 := by omega
            all_goals (intro W; kernel_rfl)
          have hc := zcells_cell (World.alloc_heap_new (((w.alloc (.cells #[.int .i64 a0_0, .int .i64 a0_1, .int .i64 a0_2, .int .i64 a0_3, .int .i64 a0_4, .int .u32 a0_5, .int .u32 a0_6, .int .u32 a0_7, .int .u32 a0_8, .int .u32 a0_9, .int .u32 a0_10, .int .u32 a0_11, .int .u32 a0_12] 25)).alloc (.cells #[.int .i64 a1_0, .int .i64 a1_1, .int .i64 a1_2, .int .i64 a1_3, .int .i64 a1_4, .int .u32 a1_5, .int .u32 a1_6, .int .u32 a1_7, .int .u32 a1_8, .int .u32 a1_9, .int .u32 a1_10, .int .u32 a1_11, .int .u32 a1_12] 25)).alloc (.cells #[.int .i64 0, .int .i64 0, .int .i64 0, .int .i64 0, .int .i64 0, .int .u32 0, .int .u32 0, .int .u32 0, .int .u32 0, .int .u32 0, .int .u32 0, .int .u32 0, .int .u32 0] 25)) (.cells (zcells l1 (orK k la lb)) 25)) (q := k) (by rw [orK_length HLA.out HLB.out hk]; exact ck)
          have hf := blk_frozen (World.alloc_heap_new (((w.alloc (.cells #[.int .i64 a0_0, .int .i64 a0_1, .int .i64 a0_2, .int .i64 a0_3, .int .i64 a0_4, .int .u32 a0_5, .int .u32 a0_6, .int .u32 a0_7, .int .u32 a0_8, .int .u32 a0_9, .int .u32 a0_10, .int .u32 a0_11, .int .u32 a0_12] 25)).alloc (.cells #[.int .i64 a1_0, .int .i64 a1_1, .int .i64 a1_2, .int .i64 a1_3, .int .i64 a1_4, .int .u32 a1_5, .int .u32 a1_6, .int .u32 a1_7, .int .u32 a1_8, .int .u32 a1_9, .int .u32 a1_10, .int .u32 a1_11, .int .u32 a1_12] 25)).alloc (.cells #[.int .i64 0, .int .i64 0, .int .i64 0, .int .i64 0, .int .i64 0, .int .u32 0, .int .u32 0, .int .u32 0, .int .u32 0, .int .u32 0, .int .u32 0, .int .u32 0, .int .u32 0] 25)) (.cells (zcells l1 (orK k la lb)) 25)) (5 + k)
          rw [HL15.out, orK_get HLA.out HLB.out ck] at hc
          simp only [World.size_alloc] at hc hf
          obtain ⟨W4, hW4⟩ : ∃ W4, W4 = (((w.alloc (.cells #[.int .i64 a0_0, .int .i64 a0_1, .int .i64 a0_2, .int .i64 a0_3, .int .i64 a0_4, .int .u32 a0_5, .int .u32 a0_6, .int .u32 a0_7, .int .u32 a0_8, .int .u32 a0_9, .int .u32 a0_10, .int .u32 a0_11, .int .u32 a0_12] 25)).alloc (.cells #[.int .i64 a1_0, .int .i64 a1_1, .int .i64 a1_2, .int .i64 a1_3, .int .i64 a1_4, .int .u32 a1_5, .int .u32 a1_6, .int .u32 a1_7, .int .u32 a1_8, .int .u32 a1_9, .int .u32 a1_10, .int .u32 a1_11, .int .u32 a1_12] 25)).alloc (.cells #[.int .i64 0, .int .i64 0, .int .i64 0, .int .i64 0, .int .i64 0, .int .u32 0, .int .u32 0, .int .u32 0, .int .u32 0, .int .u32 0, .int .u32 0, .int .u32 0, .int .u32 0] 25)).alloc (.cells (zcells l1 (orK k la lb)) 25) := ⟨_, rfl⟩
          rw [← hW4] at hc hf ⊢
          have HW4 := Aside0.mk hW4
          clear hW4
          obtain ⟨x, hx⟩ : ∃ x, x = lb.getD k 0 := ⟨_, rfl⟩
          obtain ⟨y, hy⟩ : ∃ y, y = la.getD k 0 := ⟨_, rfl⟩
          rw [← hx] at hidx
          rw [← hy] at hc
          have HX := Aside0.mk hx
          have HY := Aside0.mk hy
          clear hx hy
          go_wp2
          go_roundw
          case rel => exact ⟨k + 1, by omega, by go_num, by rw [HW4.out, World.setCell_alloc_at _ _ _ _ _ (by simp), HX.out, HY.out, show 5 + k = l1.length + k by rw [HL15.out], zcells_set, orK_succ HLA.out HLB.out ck]⟩
          case measure => simp [intOf]; omega
        · obtain rfl : k = 8 := by omega
          have hcs : zcells l1 (orK 8 la lb) = #[.int .i64 (mn (wrap64 (a0_0 + a1_0)) 1152921504606846976), .int .i64 (mn a0_1 a1_1), .int .i64 (mx a0_2 a1_2), .int .i64 (mn a0_3 a1_3), .int .i64 (mx a0_4 a1_4), Value.int .u32 (Go.bits .or .u32 a0_5 a1_5), Value.int .u32 (Go.bits .or .u32 a0_6 a1_6), Value.int .u32 (Go.bits .or .u32 a0_7 a1_7), Value.int .u32 (Go.bits .or .u32 a0_8 a1_8), Value.int .u32 (Go.bits .or .u32 a0_9 a1_9), Value.int .u32 (Go.bits .or .u32 a0_10 a1_10), Value.int .u32 (Go.bits .or .u32 a0_11 a1_11), Value.int .u32 (Go.bits .or .u32 a0_12 a1_12)] := by
            rw [orK_all HLA.out HLB.out, HL1.out, HA.out, HB.out]; rfl
          rw [hcs]
          clear hcs
          go_wp2
          exact bodyPost_ret (v := .agg #[.int .i64 (mn (wrap64 (a0_0 + a1_0)) 1152921504606846976), .int .i64 (mn a0_1 a1_1), .int .i64 (mx a0_2 a1_2), .int .i64 (mn a0_3 a1_3), .int .i64 (mx a0_4 a1_4), Value.int .u32 (Go.bits .or .u32 a0_5 a1_5), Value.int .u32 (Go.bits .or .u32 a0_6 a1_6), Value.int .u32 (Go.bits .or .u32 a0_7 a1_7), Value.int .u32 (Go.bits .or .u32 a0_8 a1_8), Value.int .u32 (Go.bits .or .u32 a0_9 a1_9), Value.int .u32 (Go.bits .or .u32 a0_10 a1_10), Value.int .u32 (Go.bits .or .u32 a0_11 a1_11), Value.int .u32 (Go.bits .or .u32 a0_12 a1_12)]) (by simp [results, Try.results38, go_sem]) rfl ⟨rfl, bA (bA (bA (bA (Below.refl _ _) _) _) _) _⟩
end Go.Proofs.Ytdokabaeddaipaa.Hand
end
section
namespace Go.Proofs.Ytdokabaeddaipaa.Hand
open Go.RowKit Go.Shelf Go.Proofs.YtdokabaeddaipaaW.PrintWords Go.Proofs.YtdokabaeddaipaaW.PrintMore Go.Proofs.YtdokabaeddaipaaW.PrintLast Go.Proofs.Ytdokabaeddaipaa.Seq Go.Proofs.Ytdokabaeddaipaa.A
set_option linter.unusedVariables false
set_option linter.unusedSimpArgs false
theorem cells13 {W : World} {b t : Nat} {x0 x1 x2 x3 x4 x5 x6 x7 x8 x9 x10 x11 x12 : Value} (h : W.heap[b]? = some (.cells #[x0, x1, x2, x3, x4, x5, x6, x7, x8, x9, x10, x11, x12] t)) : W.cell? ⟨b, 0, none⟩ = some x0 ∧ W.cell? ⟨b, 1, none⟩ = some x1 ∧ W.cell? ⟨b, 2, none⟩ = some x2 ∧ W.cell? ⟨b, 3, none⟩ = some x3 ∧ W.cell? ⟨b, 4, none⟩ = some x4 ∧ W.cell? ⟨b, 5, none⟩ = some x5 ∧ W.cell? ⟨b, 6, none⟩ = some x6 ∧ W.cell? ⟨b, 7, none⟩ = some x7 ∧ W.cell? ⟨b, 8, none⟩ = some x8 ∧ W.cell? ⟨b, 9, none⟩ = some x9 ∧ W.cell? ⟨b, 10, none⟩ = some x10 ∧ W.cell? ⟨b, 11, none⟩ = some x11 ∧ W.cell? ⟨b, 12, none⟩ = some x12 ∧ ∀ i, W.frozen? ⟨b, i, none⟩ = false :=
  ⟨blk_cell h 0, blk_cell h 1, blk_cell h 2, blk_cell h 3, blk_cell h 4, blk_cell h 5, blk_cell h 6, blk_cell h 7, blk_cell h 8, blk_cell h 9, blk_cell h 10, blk_cell h 11, blk_cell h 12, fun i => blk_frozen h i⟩
theorem heap_setCell {W : World} {b t : Nat} {cs : Array Value} (h : W.heap[b]? = some (.cells cs t)) (i : Nat) (v : Value) : (W.setCell ⟨b, i, none⟩ v).heap[b]? = some (.cells (cs.setIfInBounds i v) t) := by
  obtain ⟨hlt, hk⟩ := Array.getElem?_eq_some_iff.1 h
  show (W.heap.modify b _)[b]? = _
  rw [Array.getElem?_eq_getElem (by rw [Array.size_modify]; exact hlt), Array.getElem_modify_self, hk]
  rfl
theorem set13 {W : World} {b t : Nat} {x0 x1 x2 x3 x4 x5 x6 x7 x8 x9 x10 x11 x12 : Value} (h : W.heap[b]? = some (.cells #[x0, x1, x2, x3, x4, x5, x6, x7, x8, x9, x10, x11, x12] t)) (y0 y1 y2 y3 y4 y5 y6 y7 y8 y9 y10 y11 y12 : Value) : ((((((((((((((W.setCell ⟨b, 0, none⟩ y0).setCell ⟨b, 1, none⟩ y1).setCell ⟨b, 2, none⟩ y2).setCell ⟨b, 3, none⟩ y3).setCell ⟨b, 4, none⟩ y4).setCell ⟨b, 5, none⟩ y5).setCell ⟨b, 6, none⟩ y6).setCell ⟨b, 7, none⟩ y7).setCell ⟨b, 8, none⟩ y8).setCell ⟨b, 9, none⟩ y9).setCell ⟨b, 10, none⟩ y10).setCell ⟨b, 11, none⟩ y11).setCell ⟨b, 12, none⟩ y12)).heap[b]? = some (.cells #[y0, y1, y2, y3, y4, y5, y6, y7, y8, y9, y10, y11, y12] t) := by
  have h0 := heap_setCell h 0 y0
  have h1 := heap_setCell h0 1 y1
  have h2 := heap_setCell h1 2 y2
  have h3 := heap_setCell h2 3 y3
  have h4 := heap_setCell h3 4 y4
  have h5 := heap_setCell h4 5 y5
  have h6 := heap_setCell h5 6 y6
  have h7 := heap_setCell h6 7 y7
  have h8 := heap_setCell h7 8 y8
  have h9 := heap_setCell h8 9 y9
  have h10 := heap_setCell h9 10 y10
  have h11 := heap_setCell h10 11 y11
  have h12 := heap_setCell h11 12 y12
  exact h12.trans (by simp only [List.setIfInBounds_toArray, List.set_cons_zero, List.set_cons_succ])
/-- The result lies in a block of its own. -/
theorem ret_zone {f : Func} {w W : World} {b : Nat} {a : Act} {r1 r2 r3 r4 r5 r6 r7 r8 r9 r10 r11 r12 r13 : Int} (hf : f.results = #[.cell 4 25]) (h : W.heap[b]? = some (.cells #[.int .i64 r1, .int .i64 r2, .int .i64 r3, .int .i64 r4, .int .i64 r5, .int .u32 r6, .int .u32 r7, .int .u32 r8, .int .u32 r9, .int .u32 r10, .int .u32 r11, .int .u32 r12, .int .u32 r13] 25)) (hb : Below w.heap.size w W) (ha : a.tmps.getD 4 undef = .pointer (some ⟨b, 0, none⟩)) (hd : a.defers = []) :
    bodyPost Try.prog f (fun e w' => e = .returned (.agg #[.int .i64 r1, .int .i64 r2, .int .i64 r3, .int .i64 r4, .int .i64 r5, .int .u32 r6, .int .u32 r7, .int .u32 r8, .int .u32 r9, .int .u32 r10, .int .u32 r11, .int .u32 r12, .int .u32 r13]) ∧ Below w.heap.size w w') .ret a W := by
  obtain ⟨ds0, ds1, ds2, ds3, ds4, ds5, ds6, ds7, ds8, ds9, ds10, ds11, ds12, fr'⟩ := cells13 h
  have ha' : a.tmps[4]?.getD undef = .pointer (some ⟨b, 0, none⟩) := by rw [← Array.getD_eq_getD_getElem?]; exact ha
  exact bodyPost_ret (v := .agg #[.int .i64 r1, .int .i64 r2, .int .i64 r3, .int .i64 r4, .int .i64 r5, .int .u32 r6, .int .u32 r7, .int .u32 r8, .int .u32 r9, .int .u32 r10, .int .u32 r11, .int .u32 r12, .int .u32 r13]) (by simp [results, hf, go_sem, ha', ds0, ds1, ds2, ds3, ds4, ds5, ds6, ds7, ds8, ds9, ds10, ds11, ds12]) hd ⟨rfl, hb⟩
theorem below13 {w W : World} {B b : Nat} (h : Below B w W) (hb : B ≤ b) (y0 y1 y2 y3 y4 y5 y6 y7 y8 y9 y10 y11 y12 : Value) : Below B w ((((((((((((((W.setCell ⟨b, 0, none⟩ y0).setCell ⟨b, 1, none⟩ y1).setCell ⟨b, 2, none⟩ y2).setCell ⟨b, 3, none⟩ y3).setCell ⟨b, 4, none⟩ y4).setCell ⟨b, 5, none⟩ y5).setCell ⟨b, 6, none⟩ y6).setCell ⟨b, 7, none⟩ y7).setCell ⟨b, 8, none⟩ y8).setCell ⟨b, 9, none⟩ y9).setCell ⟨b, 10, none⟩ y10).setCell ⟨b, 11, none⟩ y11).setCell ⟨b, 12, none⟩ y12)) :=
  (((((((((((((h.setCell (p := ⟨b, 0, none⟩) hb _).setCell (p := ⟨b, 1, none⟩) hb _).setCell (p := ⟨b, 2, none⟩) hb _).setCell (p := ⟨b, 3, none⟩) hb _).setCell (p := ⟨b, 4, none⟩) hb _).setCell (p := ⟨b, 5, none⟩) hb _).setCell (p := ⟨b, 6, none⟩) hb _).setCell (p := ⟨b, 7, none⟩) hb _).setCell (p := ⟨b, 8, none⟩) hb _).setCell (p := ⟨b, 9, none⟩) hb _).setCell (p := ⟨b, 10, none⟩) hb _).setCell (p := ⟨b, 11, none⟩) hb _).setCell (p := ⟨b, 12, none⟩) hb _)
end Go.Proofs.Ytdokabaeddaipaa.Hand
end
section
namespace Go.Proofs.Ytdokabaeddaipaa.Hand
open Go.RowKit Go.Proofs.YtdokabaeddaipaaW.PrintWords Go.Proofs.YtdokabaeddaipaaW.PrintMore Go.Proofs.Ytdokabaeddaipaa.Seq Go.Proofs.Ytdokabaeddaipaa.A
attribute [local go_sem] Oper.semAt_some
attribute [local go_sem high] eqZ
set_option linter.unusedVariables false
set_option linter.unusedSimpArgs false
/-- Why a zone is not valid. -/
def checkZ (x0 x1 x2 x3 x4 x5 x6 x7 x8 x9 x10 x11 x12 : Int) : Int :=
  if x0 < 0 ∨ 1152921504606846976 < x0 then 2
  else if x0 = 0 then (if zeroB x0 x1 x2 x3 x4 x5 x6 x7 x8 x9 x10 x11 x12 = true then 0 else 10)
  else if ¬ ((1 ≤ x1 ∧ x1 ≤ 1099511627776) ∧ (1 ≤ x2 ∧ x2 ≤ 1099511627776)) then 2
  else if x2 < x1 then 9
  else if ¬ ((-1099511627776 ≤ x3 ∧ x3 ≤ 1099511627776) ∧ (-1099511627776 ≤ x4 ∧ x4 ≤ 1099511627776)) then 2
  else if x4 < x3 then 9
  else 0
theorem isTime_is (x : Int) : zonemap_isTime.f x = some (decide (1 ≤ x ∧ x ≤ 1099511627776)) := by
  unfold zonemap_isTime.f
  by_cases h : x ≥ 1
  · rw [if_pos h]; congr 1; simp; omega
  · rw [if_neg h]; congr 1; symm; simp; omega
theorem isValue_is (x : Int) : zonemap_isValue.f x = some (decide (-1099511627776 ≤ x ∧ x ≤ 1099511627776)) := by
  unfold zonemap_isValue.f
  by_cases h : x ≥ -1099511627776
  · rw [if_pos h]; congr 1; simp; omega
  · rw [if_neg h]; congr 1; symm; simp; omega
theorem isTime_call (x : Int) (w : World) : Calls Try.prog 34 #[.int .i64 x] w fun e w' => e = .returned (.bool (decide (1 ≤ x ∧ x ≤ 1099511627776))) ∧ Drawn0 w w' := zonemap_isTime.calls x _ w (isTime_is x)
theorem isValue_call (x : Int) (w : World) : Calls Try.prog 35 #[.int .i64 x] w fun e w' => e = .returned (.bool (decide (-1099511627776 ≤ x ∧ x ≤ 1099511627776))) ∧ Drawn0 w w' := zonemap_isValue.calls x _ w (isValue_is x)
theorem rest_neq (x1 x2 x3 x4 x5 x6 x7 x8 x9 x10 x11 x12 : Int) : (!(x1 == 0) || (!(x2 == 0) || (!(x3 == 0) || (!(x4 == 0) || ((!(x5 == 0) || (!(x6 == 0) || (!(x7 == 0) || (!(x8 == 0) || (!(x9 == 0) || (!(x10 == 0) || (!(x11 == 0) || (!(x12 == 0)))))))))))))) = !(x1 == 0 && (x2 == 0 && (x3 == 0 && (x4 == 0 && (x5 == 0 && (x6 == 0 && (x7 == 0 && (x8 == 0 && (x9 == 0 && (x10 == 0 && (x11 == 0 && (x12 == 0)))))))))))) := by
  simp only [Bool.not_and]
def zcheck.f (a0_0 a0_1 a0_2 a0_3 a0_4 a0_5 a0_6 a0_7 a0_8 a0_9 a0_10 a0_11 a0_12 : Int) : Option Int := some (checkZ a0_0 a0_1 a0_2 a0_3 a0_4 a0_5 a0_6 a0_7 a0_8 a0_9 a0_10 a0_11 a0_12)
set_option maxRecDepth 100000 in
set_option maxHeartbeats 20000000 in
theorem zcheck_any (x0 x1 x2 x3 x4 x5 x6 x7 x8 x9 x10 x11 x12 : Int) (w : World) :
    Calls Try.prog 13 #[.agg #[.int .i64 x0, .int .i64 x1, .int .i64 x2, .int .i64 x3, .int .i64 x4, .int .u32 x5, .int .u32 x6, .int .u32 x7, .int .u32 x8, .int .u32 x9, .int .u32 x10, .int .u32 x11, .int .u32 x12]] w fun e w' => e = .returned (.int .i64 (checkZ x0 x1 x2 x3 x4 x5 x6 x7 x8 x9 x10 x11 x12)) ∧ Below w.heap.size w w' := by
  have ht1 := fun W => isTime_call x1 W
  have ht2 := fun W => isTime_call x2 W
  have hv3 := fun W => isValue_call x3 W
  have hv4 := fun W => isValue_call x4 W
  by_cases h0 : x0 < 0
  · rw [show checkZ x0 x1 x2 x3 x4 x5 x6 x7 x8 x9 x10 x11 x12 = 2 from by unfold checkZ; rw [if_pos (.inl h0)]]
    go_enter Try.func13, Try.ntmps13
    go_wp2_with (first | (go_at_call 34; (with_reducible refine (ht1 _).mono ?_); rintro e w' ⟨rfl, ⟨mm, rfl⟩⟩) | (go_at_call 34; (with_reducible refine (ht2 _).mono ?_); rintro e w' ⟨rfl, ⟨mm, rfl⟩⟩) | (go_at_call 35; (with_reducible refine (hv3 _).mono ?_); rintro e w' ⟨rfl, ⟨mm, rfl⟩⟩) | (go_at_call 35; (with_reducible refine (hv4 _).mono ?_); rintro e w' ⟨rfl, ⟨mm, rfl⟩⟩))
    go_ret
    exact ⟨rfl, by repeat (first | exact Below.refl _ _ | apply bN | apply bA | apply bD)⟩
  by_cases h1 : 1152921504606846976 < x0
  · rw [show checkZ x0 x1 x2 x3 x4 x5 x6 x7 x8 x9 x10 x11 x12 = 2 from by unfold checkZ; rw [if_pos (.inr h1)]]
    have h0' : 0 ≤ x0 := by omega
    clear h0
    go_enter Try.func13, Try.ntmps13
    go_wp2_with (first | (go_at_call 34; (with_reducible refine (ht1 _).mono ?_); rintro e w' ⟨rfl, ⟨mm, rfl⟩⟩) | (go_at_call 34; (with_reducible refine (ht2 _).mono ?_); rintro e w' ⟨rfl, ⟨mm, rfl⟩⟩) | (go_at_call 35; (with_reducible refine (hv3 _).mono ?_); rintro e w' ⟨rfl, ⟨mm, rfl⟩⟩) | (go_at_call 35; (with_reducible refine (hv4 _).mono ?_); rintro e w' ⟨rfl, ⟨mm, rfl⟩⟩))
    go_ret
    exact ⟨rfl, by repeat (first | exact Below.refl _ _ | apply bN | apply bA | apply bD)⟩
  have g0 : 0 ≤ x0 := by omega
  have g1 : x0 ≤ 1152921504606846976 := by omega
  have g2 : ¬ (x0 < 0 ∨ 1152921504606846976 < x0) := by omega
  clear h0 h1
  by_cases h2 : x0 = 0
  · subst h2
    cases hz : (x1 == 0 && (x2 == 0 && (x3 == 0 && (x4 == 0 && (x5 == 0 && (x6 == 0 && (x7 == 0 && (x8 == 0 && (x9 == 0 && (x10 == 0 && (x11 == 0 && (x12 == 0)))))))))))) with
    | true =>
      rw [show checkZ 0 x1 x2 x3 x4 x5 x6 x7 x8 x9 x10 x11 x12 = 0 from by
        unfold checkZ; rw [if_neg g2, if_pos rfl, if_pos (show zeroB 0 x1 x2 x3 x4 x5 x6 x7 x8 x9 x10 x11 x12 = true from by unfold zeroB; exact hz)]]
      have hz2 := rest_neq x1 x2 x3 x4 x5 x6 x7 x8 x9 x10 x11 x12
      rw [hz] at hz2
      clear g2
      go_enter Try.func13, Try.ntmps13
      go_wp2_with (first | (go_at_call 34; (with_reducible refine (ht1 _).mono ?_); rintro e w' ⟨rfl, ⟨mm, rfl⟩⟩) | (go_at_call 34; (with_reducible refine (ht2 _).mono ?_); rintro e w' ⟨rfl, ⟨mm, rfl⟩⟩) | (go_at_call 35; (with_reducible refine (hv3 _).mono ?_); rintro e w' ⟨rfl, ⟨mm, rfl⟩⟩) | (go_at_call 35; (with_reducible refine (hv4 _).mono ?_); rintro e w' ⟨rfl, ⟨mm, rfl⟩⟩))
      go_ret
      exact ⟨rfl, by repeat (first | exact Below.refl _ _ | apply bN | apply bA | apply bD)⟩
    | false =>
      rw [show checkZ 0 x1 x2 x3 x4 x5 x6 x7 x8 x9 x10 x11 x12 = 10 from by
        unfold checkZ; rw [if_neg g2, if_pos rfl, if_neg (show ¬ zeroB 0 x1 x2 x3 x4 x5 x6 x7 x8 x9 x10 x11 x12 = true from by
          have : zeroB 0 x1 x2 x3 x4 x5 x6 x7 x8 x9 x10 x11 x12 = false := by unfold zeroB; exact hz
          rw [this]; decide)]]
      have hz2 := rest_neq x1 x2 x3 x4 x5 x6 x7 x8 x9 x10 x11 x12
      rw [hz] at hz2
      clear g2
      go_enter Try.func13, Try.ntmps13
      go_wp2_with (first | (go_at_call 34; (with_reducible refine (ht1 _).mono ?_); rintro e w' ⟨rfl, ⟨mm, rfl⟩⟩) | (go_at_call 34; (with_reducible refine (ht2 _).mono ?_); rintro e w' ⟨rfl, ⟨mm, rfl⟩⟩) | (go_at_call 35; (with_reducible refine (hv3 _).mono ?_); rintro e w' ⟨rfl, ⟨mm, rfl⟩⟩) | (go_at_call 35; (with_reducible refine (hv4 _).mono ?_); rintro e w' ⟨rfl, ⟨mm, rfl⟩⟩))
      go_ret
      exact ⟨rfl, by repeat (first | exact Below.refl _ _ | apply bN | apply bA | apply bD)⟩
  have t0 : (x0 == 0) = false := beq_eq_false_iff_ne.2 h2
  have hc : checkZ x0 x1 x2 x3 x4 x5 x6 x7 x8 x9 x10 x11 x12 = (if ¬ ((1 ≤ x1 ∧ x1 ≤ 1099511627776) ∧ (1 ≤ x2 ∧ x2 ≤ 1099511627776)) then 2 else if x2 < x1 then 9
      else if ¬ ((-1099511627776 ≤ x3 ∧ x3 ≤ 1099511627776) ∧ (-1099511627776 ≤ x4 ∧ x4 ≤ 1099511627776)) then 2 else if x4 < x3 then 9 else 0) := by
    unfold checkZ; rw [if_neg g2, if_neg h2]
  rw [hc]
  clear hc g2 h2
  by_cases h3 : 1 ≤ x1 ∧ x1 ≤ 1099511627776
  · rw [decide_eq_true h3] at ht1
    by_cases h4 : 1 ≤ x2 ∧ x2 ≤ 1099511627776
    · rw [decide_eq_true h4] at ht2
      rw [if_neg (fun hh => hh ⟨h3, h4⟩)]
      clear h3 h4
      by_cases h5 : x2 < x1
      · rw [if_pos h5]
        go_enter Try.func13, Try.ntmps13
        go_wp2_with (first | (go_at_call 34; (with_reducible refine (ht1 _).mono ?_); rintro e w' ⟨rfl, ⟨mm, rfl⟩⟩) | (go_at_call 34; (with_reducible refine (ht2 _).mono ?_); rintro e w' ⟨rfl, ⟨mm, rfl⟩⟩) | (go_at_call 35; (with_reducible refine (hv3 _).mono ?_); rintro e w' ⟨rfl, ⟨mm, rfl⟩⟩) | (go_at_call 35; (with_reducible refine (hv4 _).mono ?_); rintro e w' ⟨rfl, ⟨mm, rfl⟩⟩))
        go_ret
        exact ⟨rfl, by repeat (first | exact Below.refl _ _ | apply bN | apply bA | apply bD)⟩
      rw [if_neg h5]
      have h5' : x1 ≤ x2 := by omega
      clear h5
      by_cases h6 : -1099511627776 ≤ x3 ∧ x3 ≤ 1099511627776
      · rw [decide_eq_true h6] at hv3
        by_cases h7 : -1099511627776 ≤ x4 ∧ x4 ≤ 1099511627776
        · rw [decide_eq_true h7] at hv4
          rw [if_neg (fun hh => hh ⟨h6, h7⟩)]
          clear h6 h7
          by_cases h8 : x4 < x3
          · rw [if_pos h8]
            go_enter Try.func13, Try.ntmps13
            go_wp2_with (first | (go_at_call 34; (with_reducible refine (ht1 _).mono ?_); rintro e w' ⟨rfl, ⟨mm, rfl⟩⟩) | (go_at_call 34; (with_reducible refine (ht2 _).mono ?_); rintro e w' ⟨rfl, ⟨mm, rfl⟩⟩) | (go_at_call 35; (with_reducible refine (hv3 _).mono ?_); rintro e w' ⟨rfl, ⟨mm, rfl⟩⟩) | (go_at_call 35; (with_reducible refine (hv4 _).mono ?_); rintro e w' ⟨rfl, ⟨mm, rfl⟩⟩))
            go_ret
            exact ⟨rfl, by repeat (first | exact Below.refl _ _ | apply bN | apply bA | apply bD)⟩
          · rw [if_neg h8]
            have h8' : x3 ≤ x4 := by omega
            clear h8
            go_enter Try.func13, Try.ntmps13
            go_wp2_with (first | (go_at_call 34; (with_reducible refine (ht1 _).mono ?_); rintro e w' ⟨rfl, ⟨mm, rfl⟩⟩) | (go_at_call 34; (with_reducible refine (ht2 _).mono ?_); rintro e w' ⟨rfl, ⟨mm, rfl⟩⟩) | (go_at_call 35; (with_reducible refine (hv3 _).mono ?_); rintro e w' ⟨rfl, ⟨mm, rfl⟩⟩) | (go_at_call 35; (with_reducible refine (hv4 _).mono ?_); rintro e w' ⟨rfl, ⟨mm, rfl⟩⟩))
            go_ret
            exact ⟨rfl, by repeat (first | exact Below.refl _ _ | apply bN | apply bA | apply bD)⟩
        · rw [decide_eq_false h7] at hv4
          rw [if_pos (fun hh => h7 hh.2)]
          clear h6 h7
          go_enter Try.func13, Try.ntmps13
          go_wp2_with (first | (go_at_call 34; (with_reducible refine (ht1 _).mono ?_); rintro e w' ⟨rfl, ⟨mm, rfl⟩⟩) | (go_at_call 34; (with_reducible refine (ht2 _).mono ?_); rintro e w' ⟨rfl, ⟨mm, rfl⟩⟩) | (go_at_call 35; (with_reducible refine (hv3 _).mono ?_); rintro e w' ⟨rfl, ⟨mm, rfl⟩⟩) | (go_at_call 35; (with_reducible refine (hv4 _).mono ?_); rintro e w' ⟨rfl, ⟨mm, rfl⟩⟩))
          go_ret
          exact ⟨rfl, by repeat (first | exact Below.refl _ _ | apply bN | apply bA | apply bD)⟩
      · rw [decide_eq_false h6] at hv3
        rw [if_pos (fun hh => h6 hh.1)]
        clear h6
        go_enter Try.func13, Try.ntmps13
        go_wp2_with (first | (go_at_call 34; (with_reducible refine (ht1 _).mono ?_); rintro e w' ⟨rfl, ⟨mm, rfl⟩⟩) | (go_at_call 34; (with_reducible refine (ht2 _).mono ?_); rintro e w' ⟨rfl, ⟨mm, rfl⟩⟩) | (go_at_call 35; (with_reducible refine (hv3 _).mono ?_); rintro e w' ⟨rfl, ⟨mm, rfl⟩⟩) | (go_at_call 35; (with_reducible refine (hv4 _).mono ?_); rintro e w' ⟨rfl, ⟨mm, rfl⟩⟩))
        go_ret
        exact ⟨rfl, by repeat (first | exact Below.refl _ _ | apply bN | apply bA | apply bD)⟩
    · rw [decide_eq_false h4] at ht2
      rw [if_pos (fun hh => h4 hh.2)]
      clear h3 h4
      go_enter Try.func13, Try.ntmps13
      go_wp2_with (first | (go_at_call 34; (with_reducible refine (ht1 _).mono ?_); rintro e w' ⟨rfl, ⟨mm, rfl⟩⟩) | (go_at_call 34; (with_reducible refine (ht2 _).mono ?_); rintro e w' ⟨rfl, ⟨mm, rfl⟩⟩) | (go_at_call 35; (with_reducible refine (hv3 _).mono ?_); rintro e w' ⟨rfl, ⟨mm, rfl⟩⟩) | (go_at_call 35; (with_reducible refine (hv4 _).mono ?_); rintro e w' ⟨rfl, ⟨mm, rfl⟩⟩))
      go_ret
      exact ⟨rfl, by repeat (first | exact Below.refl _ _ | apply bN | apply bA | apply bD)⟩
  · rw [decide_eq_false h3] at ht1
    rw [if_pos (fun hh => h3 hh.1)]
    clear h3
    go_enter Try.func13, Try.ntmps13
    go_wp2_with (first | (go_at_call 34; (with_reducible refine (ht1 _).mono ?_); rintro e w' ⟨rfl, ⟨mm, rfl⟩⟩) | (go_at_call 34; (with_reducible refine (ht2 _).mono ?_); rintro e w' ⟨rfl, ⟨mm, rfl⟩⟩) | (go_at_call 35; (with_reducible refine (hv3 _).mono ?_); rintro e w' ⟨rfl, ⟨mm, rfl⟩⟩) | (go_at_call 35; (with_reducible refine (hv4 _).mono ?_); rintro e w' ⟨rfl, ⟨mm, rfl⟩⟩))
    go_ret
    exact ⟨rfl, by repeat (first | exact Below.refl _ _ | apply bN | apply bA | apply bD)⟩
theorem zcheck.calls (a0_0 a0_1 a0_2 a0_3 a0_4 a0_5 a0_6 a0_7 a0_8 a0_9 a0_10 a0_11 a0_12 : Int) (r : Int) (w : World) (h : zcheck.f a0_0 a0_1 a0_2 a0_3 a0_4 a0_5 a0_6 a0_7 a0_8 a0_9 a0_10 a0_11 a0_12 = some r) :
    Calls Try.prog 13 #[.agg #[.int .i64 a0_0, .int .i64 a0_1, .int .i64 a0_2, .int .i64 a0_3, .int .i64 a0_4, .int .u32 a0_5, .int .u32 a0_6, .int .u32 a0_7, .int .u32 a0_8, .int .u32 a0_9, .int .u32 a0_10, .int .u32 a0_11, .int .u32 a0_12]] w fun e w' => e = .returned (.int .i64 r) ∧ Below w.heap.size w w' := by
  obtain rfl := Option.some.inj h
  exact zcheck_any a0_0 a0_1 a0_2 a0_3 a0_4 a0_5 a0_6 a0_7 a0_8 a0_9 a0_10 a0_11 a0_12 w
end Go.Proofs.Ytdokabaeddaipaa.Hand
end
section
namespace Go.Proofs.Ytdokabaeddaipaa.Hand
open Go.RowKit Go.Shelf Go.Proofs.YtdokabaeddaipaaW.PrintWords Go.Proofs.YtdokabaeddaipaaW.PrintMore Go.Proofs.YtdokabaeddaipaaW.PrintLast Go.Proofs.Ytdokabaeddaipaa.Seq Go.Proofs.Ytdokabaeddaipaa.A
attribute [local go_sem] Oper.semAt_some
set_option linter.unusedVariables false
set_option linter.unusedSimpArgs false
/-- A bit is set. -/
def setW (ws : List Int) (n : Int) : List Int := ws.set (n / 32).toNat (Go.bits .or .u32 (ws.getD (n / 32).toNat 0) (bitW n))
/-- The first k bits of a string are set. -/
def setS (ws : List Int) (s : ByteArray) : Nat → List Int
  | 0 => ws
  | k + 1 => setW (setS ws s k) (bitn s k)
def setL (ws : List Int) (l : List ByteArray) : List Int := l.foldl (fun ws s => setS ws s 3) ws
theorem setW_length (ws : List Int) (n : Int) : (setW ws n).length = ws.length := by simp [setW]
theorem setS_length (ws : List Int) (s : ByteArray) : ∀ k, (setS ws s k).length = ws.length
  | 0 => rfl
  | k + 1 => by rw [setS, setW_length, setS_length ws s k]
theorem setL_length : ∀ (l : List ByteArray) (ws : List Int), (setL ws l).length = ws.length
  | [], _ => rfl
  | s :: l, ws => by
    show (setL (setS ws s 3) l).length = _
    rw [setL_length l, setS_length]
theorem setL_snoc (ws : List Int) (l : List ByteArray) (s : ByteArray) : setL ws (l ++ [s]) = setS (setL ws l) s 3 := by simp [setL, List.foldl_append]
theorem setW_nat (ws : List Int) (n : Nat) : setW ws (n : Int) = ws.set (n / 32) (Go.bits .or .u32 (ws[n / 32]?.getD 0) (2 ^ (n % 32) % 4294967296)) := by
  unfold setW bitW
  rw [show ((n : Int) / 32).toNat = n / 32 by omega, show ((n : Int) % 32).toNat = n % 32 by omega, List.getD_eq_getElem?_getD]
theorem blk_keptA {Bnd : Nat} {X Y : World} {row : Option Nat} {b t : Nat} {cs : Array Value} (h : X.heap[b]? = some (.cells cs t)) (hg : X.grownBy Y row) (hr : ∀ r, row = some r → Bnd ≤ r ∧ ∃ o : Obj, X.heap[r]? = some o ∧ o.isCells = false) : Y.heap[b]? = some (.cells cs t) := by
  obtain ⟨_, _, _, _, hg5⟩ := hg
  refine (hg5 b (blk_lt h) (fun e => ?_)).trans h
  obtain ⟨_, o, ho, hc⟩ := hr b (by first | exact e | exact e.symm)
  rw [h] at ho
  cases ho; cases hc
theorem run_shl1 (P : Program) (n : Nat) (W : World) : Sem.run P (Op.shift .shl .u32 1 .i64 ((n : Int) % 32)) W = .ok (.int .u32 (2 ^ (n % 32) % 4294967296)) W := by
  unfold Op.shift
  rw [if_neg (by omega), show ((n : Int) % 32).toNat = n % 32 by omega]
  simp only [Nat.min_eq_left (show n % 32 ≤ IntKind.u32.bits from by simp [IntKind.bits]; omega)]
  show Sem.run P (pure (Value.int .u32 (IntKind.u32.wrap (1 * 2 ^ (n % 32))))) W = _
  rw [Int.one_mul, IntKind.wrap_u32']
  rfl
theorem heap_setCell_ne {W : World} {b c : Nat} (hc : b ≠ c) (i : Nat) (v : Value) : (W.setCell ⟨c, i, none⟩ v).heap[b]? = W.heap[b]? := by
  show (W.heap.modify c _)[b]? = _
  rcases Nat.lt_or_ge b W.heap.size with h | h
  · rw [Array.getElem?_eq_getElem (by rw [Array.size_modify]; exact h), Array.getElem_modify_of_ne (by omega), Array.getElem?_eq_getElem h]
  · rw [Array.getElem?_eq_none (by rw [Array.size_modify]; exact h), Array.getElem?_eq_none h]
theorem list8 : ∀ {l : List Int}, l.length = 8 → l = [l.getD 0 0, l.getD 1 0, l.getD 2 0, l.getD 3 0, l.getD 4 0, l.getD 5 0, l.getD 6 0, l.getD 7 0]
  | [_, _, _, _, _, _, _, _], _ => rfl
/-- The words of some strings. -/
def bloomL (l : List ByteArray) : List Int := setL [0, 0, 0, 0, 0, 0, 0, 0] l
def addOk (x0 x1 x2 x3 x4 x5 x6 x7 x8 x9 x10 x11 x12 t v : Int) : Bool := decide (checkZ x0 x1 x2 x3 x4 x5 x6 x7 x8 x9 x10 x11 x12 = 0) && (decide (1 ≤ t ∧ t ≤ 1099511627776) && (decide (-1099511627776 ≤ v ∧ v ≤ 1099511627776) && !(x0 == 1152921504606846976)))
def zonemap_Add.f (a0_0 a0_1 a0_2 a0_3 a0_4 a0_5 a0_6 a0_7 a0_8 a0_9 a0_10 a0_11 a0_12 a1 a2 : Int) (l3 : List ByteArray) : Option (Int × Int × Int × Int × Int × Int × Int × Int × Int × Int × Int × Int × Int) :=
  if addOk a0_0 a0_1 a0_2 a0_3 a0_4 a0_5 a0_6 a0_7 a0_8 a0_9 a0_10 a0_11 a0_12 a1 a2 = true then
    (if ∀ s ∈ l3, s.size + 2 ≤ 9223372036854775807 then zonemap_join.f a0_0 a0_1 a0_2 a0_3 a0_4 a0_5 a0_6 a0_7 a0_8 a0_9 a0_10 a0_11 a0_12 1 a1 a1 a2 a2 ((bloomL l3).getD 0 0) ((bloomL l3).getD 1 0) ((bloomL l3).getD 2 0) ((bloomL l3).getD 3 0) ((bloomL l3).getD 4 0) ((bloomL l3).getD 5 0) ((bloomL l3).getD 6 0) ((bloomL l3).getD 7 0) else none)
  else some (a0_0, a0_1, a0_2, a0_3, a0_4, a0_5, a0_6, a0_7, a0_8, a0_9, a0_10, a0_11, a0_12)
/-- The result lies in a block of its own. -/
theorem ret_zoneM {n : Nat} {f : Func} {w W : World} {b q B : Nat} {rs : List Nat} {a : Act} {r1 r2 r3 r4 r5 r6 r7 r8 r9 r10 r11 r12 r13 : Int} (hf : f.results = #[.cell q 25]) (h : W.heap[b]? = some (.cells #[.int .i64 r1, .int .i64 r2, .int .i64 r3, .int .i64 r4, .int .i64 r5, .int .u32 r6, .int .u32 r7, .int .u32 r8, .int .u32 r9, .int .u32 r10, .int .u32 r11, .int .u32 r12, .int .u32 r13] 25)) (hb : Below w.heap.size w W) (ha : a.tmps.getD q undef = .pointer (some ⟨b, 0, none⟩)) (hd : a.defers = rs.map mkD) (hm : Marks B rs W) (hB : w.heap.size ≤ B) :
    bodyPostM Fence.wide n Try.prog f (fun e w' => e = .returned (.agg #[.int .i64 r1, .int .i64 r2, .int .i64 r3, .int .i64 r4, .int .i64 r5, .int .u32 r6, .int .u32 r7, .int .u32 r8, .int .u32 r9, .int .u32 r10, .int .u32 r11, .int .u32 r12, .int .u32 r13]) ∧ Below w.heap.size w w') .ret a W := by
  show LeavesInM Fence.wide n Try.prog f a.tmps _ a.defers .returning W
  rw [hd]
  refine leaves_marks rs W hm (fun W' h1 h2 => ?_)
  obtain ⟨ds0, ds1, ds2, ds3, ds4, ds5, ds6, ds7, ds8, ds9, ds10, ds11, ds12, fr'⟩ := cells13 (h1 _ _ h rfl)
  have ha' : a.tmps[q]?.getD undef = .pointer (some ⟨b, 0, none⟩) := by rw [← Array.getD_eq_getD_getElem?]; exact ha
  exact ⟨.agg #[.int .i64 r1, .int .i64 r2, .int .i64 r3, .int .i64 r4, .int .i64 r5, .int .u32 r6, .int .u32 r7, .int .u32 r8, .int .u32 r9, .int .u32 r10, .int .u32 r11, .int .u32 r12, .int .u32 r13], by simp [results, hf, go_sem, ha', ds0, ds1, ds2, ds3, ds4, ds5, ds6, ds7, ds8, ds9, ds10, ds11, ds12], rfl, h2 w _ hB (Nat.le_refl _) hb⟩
theorem marks13 {W : World} {b B : Nat} {rs : List Nat} (h : Marks B rs W) (y0 y1 y2 y3 y4 y5 y6 y7 y8 y9 y10 y11 y12 : Value) : Marks B rs ((((((((((((((W.setCell ⟨b, 0, none⟩ y0).setCell ⟨b, 1, none⟩ y1).setCell ⟨b, 2, none⟩ y2).setCell ⟨b, 3, none⟩ y3).setCell ⟨b, 4, none⟩ y4).setCell ⟨b, 5, none⟩ y5).setCell ⟨b, 6, none⟩ y6).setCell ⟨b, 7, none⟩ y7).setCell ⟨b, 8, none⟩ y8).setCell ⟨b, 9, none⟩ y9).setCell ⟨b, 10, none⟩ y10).setCell ⟨b, 11, none⟩ y11).setCell ⟨b, 12, none⟩ y12)) :=
  (((((((((((((h.keeps ((KeepsOthers.setCell _ _ _).from _)).keeps ((KeepsOthers.setCell _ _ _).from _)).keeps ((KeepsOthers.setCell _ _ _).from _)).keeps ((KeepsOthers.setCell _ _ _).from _)).keeps ((KeepsOthers.setCell _ _ _).from _)).keeps ((KeepsOthers.setCell _ _ _).from _)).keeps ((KeepsOthers.setCell _ _ _).from _)).keeps ((KeepsOthers.setCell _ _ _).from _)).keeps ((KeepsOthers.setCell _ _ _).from _)).keeps ((KeepsOthers.setCell _ _ _).from _)).keeps ((KeepsOthers.setCell _ _ _).from _)).keeps ((KeepsOthers.setCell _ _ _).from _)).keeps ((KeepsOthers.setCell _ _ _).from _))
set_option maxRecDepth 100000 in
set_option maxHeartbeats 16000000 in
theorem zonemap_Add.calls (a0_0 a0_1 a0_2 a0_3 a0_4 a0_5 a0_6 a0_7 a0_8 a0_9 a0_10 a0_11 a0_12 a1 a2 : Int) (A3 : Option Addr) (c3 : Nat) (l3 : List ByteArray) (r1 r2 r3 r4 r5 r6 r7 r8 r9 r10 r11 r12 r13 : Int) (w : World) (hr3 : Kd.C Kd.string w A3 l3.length l3) (hc3 : l3.length ≤ c3) (h : zonemap_Add.f a0_0 a0_1 a0_2 a0_3 a0_4 a0_5 a0_6 a0_7 a0_8 a0_9 a0_10 a0_11 a0_12 a1 a2 l3 = some (r1, r2, r3, r4, r5, r6, r7, r8, r9, r10, r11, r12, r13)) :
    Calls Try.prog 15 #[.agg #[.int .i64 a0_0, .int .i64 a0_1, .int .i64 a0_2, .int .i64 a0_3, .int .i64 a0_4, .int .u32 a0_5, .int .u32 a0_6, .int .u32 a0_7, .int .u32 a0_8, .int .u32 a0_9, .int .u32 a0_10, .int .u32 a0_11, .int .u32 a0_12], .int .i64 a1, .int .i64 a2, .slice A3 l3.length c3] w fun e w' => e = .returned (.agg #[.int .i64 r1, .int .i64 r2, .int .i64 r3, .int .i64 r4, .int .i64 r5, .int .u32 r6, .int .u32 r7, .int .u32 r8, .int .u32 r9, .int .u32 r10, .int .u32 r11, .int .u32 r12, .int .u32 r13]) ∧ Below w.heap.size w w' := by
  unfold zonemap_Add.f at h
  obtain ⟨ea, hea⟩ : ∃ ea, ea = checkZ a0_0 a0_1 a0_2 a0_3 a0_4 a0_5 a0_6 a0_7 a0_8 a0_9 a0_10 a0_11 a0_12 := ⟨_, rfl⟩
  obtain ⟨bt, hbt⟩ : ∃ b, b = decide (1 ≤ a1 ∧ a1 ≤ 1099511627776) := ⟨_, rfl⟩
  obtain ⟨bv, hbv⟩ : ∃ b, b = decide (-1099511627776 ≤ a2 ∧ a2 ≤ 1099511627776) := ⟨_, rfl⟩
  obtain ⟨bm, hbm⟩ : ∃ b, b = (a0_0 == 1152921504606846976) := ⟨_, rfl⟩
  have hct := fun W => isTime_call a1 W
  have hcv := fun W => isValue_call a2 W
  rw [show addOk a0_0 a0_1 a0_2 a0_3 a0_4 a0_5 a0_6 a0_7 a0_8 a0_9 a0_10 a0_11 a0_12 a1 a2 = (decide (ea = 0) && (bt && (bv && !bm))) by unfold addOk; rw [hea, hbt, hbv, hbm]] at h
  rw [← hbt] at hct
  rw [← hbv] at hcv
  have HEA := Aside0.mk hea
  have H := Aside0.mk h
  have HR3 := Aside0.mk hr3
  have HM := hr3.2.1
  have hm := hbm.symm
  clear h hea hbt hbv hbm hr3
  refine (callsIn_wide (n := 4)).1 ?_
  refine callsIn_of_wp_marks Try.func15 rfl trivial ?_ rfl
  simp only [Try.ntmps15, List.size_toArray, List.length_cons, List.length_nil, Nat.reduceAdd, Nat.reduceSub, Array.replicate_succ, Array.replicate_zero, List.push_toArray, List.append_toArray, List.nil_append, List.cons_append]
  gi_wp2_with fail
  refine ⟨trivial, (callsIn_wide.2 (zcheck.calls a0_0 a0_1 a0_2 a0_3 a0_4 a0_5 a0_6 a0_7 a0_8 a0_9 a0_10 a0_11 a0_12 ea _ (by unfold zcheck.f; rw [HEA.out]))).mono ?_⟩
  rintro e W1 ⟨rfl, hb1⟩
  have kA : W1.heap[w.heap.size]? = some (.cells #[.int .i64 a0_0, .int .i64 a0_1, .int .i64 a0_2, .int .i64 a0_3, .int .i64 a0_4, .int .u32 a0_5, .int .u32 a0_6, .int .u32 a0_7, .int .u32 a0_8, .int .u32 a0_9, .int .u32 a0_10, .int .u32 a0_11, .int .u32 a0_12] 25) := (hb1.block w.heap.size (by simp <;> omega)).trans ((Below.heap_alloc _ _ _ (by simp)).trans (World.alloc_heap_new w _))
  have nR : ((w.alloc (.cells #[.int .i64 a0_0, .int .i64 a0_1, .int .i64 a0_2, .int .i64 a0_3, .int .i64 a0_4, .int .u32 a0_5, .int .u32 a0_6, .int .u32 a0_7, .int .u32 a0_8, .int .u32 a0_9, .int .u32 a0_10, .int .u32 a0_11, .int .u32 a0_12] 25)).alloc (.cells #[.int .i64 0, .int .i64 0, .int .i64 0, .int .i64 0, .int .i64 0, .int .u32 0, .int .u32 0, .int .u32 0, .int .u32 0, .int .u32 0, .int .u32 0, .int .u32 0, .int .u32 0] 25)).heap[w.heap.size + 1]? = some (.cells #[.int .i64 0, .int .i64 0, .int .i64 0, .int .i64 0, .int .i64 0, .int .u32 0, .int .u32 0, .int .u32 0, .int .u32 0, .int .u32 0, .int .u32 0, .int .u32 0, .int .u32 0] 25) := by
    have := World.alloc_heap_new (w.alloc (.cells #[.int .i64 a0_0, .int .i64 a0_1, .int .i64 a0_2, .int .i64 a0_3, .int .i64 a0_4, .int .u32 a0_5, .int .u32 a0_6, .int .u32 a0_7, .int .u32 a0_8, .int .u32 a0_9, .int .u32 a0_10, .int .u32 a0_11, .int .u32 a0_12] 25)) (.cells #[.int .i64 0, .int .i64 0, .int .i64 0, .int .i64 0, .int .i64 0, .int .u32 0, .int .u32 0, .int .u32 0, .int .u32 0, .int .u32 0, .int .u32 0, .int .u32 0, .int .u32 0] 25)
    simp only [World.size_alloc] at this
    exact this
  have kR : W1.heap[w.heap.size + 1]? = some (.cells #[.int .i64 0, .int .i64 0, .int .i64 0, .int .i64 0, .int .i64 0, .int .u32 0, .int .u32 0, .int .u32 0, .int .u32 0, .int .u32 0, .int .u32 0, .int .u32 0, .int .u32 0] 25) := (hb1.block (w.heap.size + 1) (by simp)).trans nR
  have HBB : Aside0 (Below w.heap.size w W1) := ⟨(bA (bA (Below.refl _ _) _) _).trans (hb1.mono (by simp <;> omega))⟩
  have KA := Aside0.mk kA
  have KR := Aside0.mk kR
  have hsz1 : w.heap.size + 1 < W1.heap.size := blk_lt kR
  clear hb1 nR kA kR
  have hfin : ∀ (W : World), (ea = 0 ∧ bt = true ∧ bv = true ∧ bm = false → False) → W.heap[w.heap.size + 1]? = some (.cells #[.int .i64 a0_0, .int .i64 a0_1, .int .i64 a0_2, .int .i64 a0_3, .int .i64 a0_4, .int .u32 a0_5, .int .u32 a0_6, .int .u32 a0_7, .int .u32 a0_8, .int .u32 a0_9, .int .u32 a0_10, .int .u32 a0_11, .int .u32 a0_12] 25) → W.heap[w.heap.size + 1]? = some (.cells #[.int .i64 r1, .int .i64 r2, .int .i64 r3, .int .i64 r4, .int .i64 r5, .int .u32 r6, .int .u32 r7, .int .u32 r8, .int .u32 r9, .int .u32 r10, .int .u32 r11, .int .u32 r12, .int .u32 r13] 25) := by
    intro W hno hW
    have hr := H.out
    rw [if_neg (fun hh => hno (by simpa [and_assoc] using hh))] at hr
    simp only [Option.some.injEq, Prod.mk.injEq] at hr
    obtain ⟨rfl, rfl, rfl, rfl, rfl, rfl, rfl, rfl, rfl, rfl, rfl, rfl, rfl⟩ := hr
    exact hW
  have HF := Aside0.mk hfin
  clear hfin
  obtain ⟨ca0, ca1, ca2, ca3, ca4, ca5, ca6, ca7, ca8, ca9, ca10, ca11, ca12, fa⟩ := cells13 KA.out
  obtain ⟨cr0, cr1, cr2, cr3, cr4, cr5, cr6, cr7, cr8, cr9, cr10, cr11, cr12, fr⟩ := cells13 KR.out
  by_cases ca : ea = 0
  · subst ca
    have t1 : ((0 : Int) != 0) = false := rfl
    gi_wp2_with fail
    refine ⟨trivial, (callsIn_wide.2 (hct _)).mono ?_⟩
    clear ca0 ca1 ca2 ca3 ca4 ca5 ca6 ca7 ca8 ca9 ca10 ca11 ca12 cr0 cr1 cr2 cr3 cr4 cr5 cr6 cr7 cr8 cr9 cr10 cr11 cr12 fa fr
    rintro e w' ⟨rfl, ⟨mm, rfl⟩⟩
    have KA := Aside0.mk (show (W1.drewN mm).heap[w.heap.size]? = some (.cells #[.int .i64 a0_0, .int .i64 a0_1, .int .i64 a0_2, .int .i64 a0_3, .int .i64 a0_4, .int .u32 a0_5, .int .u32 a0_6, .int .u32 a0_7, .int .u32 a0_8, .int .u32 a0_9, .int .u32 a0_10, .int .u32 a0_11, .int .u32 a0_12] 25) from KA.out)
    have KR := Aside0.mk (show (W1.drewN mm).heap[w.heap.size + 1]? = some (.cells #[.int .i64 0, .int .i64 0, .int .i64 0, .int .i64 0, .int .i64 0, .int .u32 0, .int .u32 0, .int .u32 0, .int .u32 0, .int .u32 0, .int .u32 0, .int .u32 0, .int .u32 0] 25) from KR.out)
    have HBB : Aside0 (Below w.heap.size w (W1.drewN mm)) := ⟨bN HBB.out _⟩
    have hsz1 : w.heap.size + 1 < (W1.drewN mm).heap.size := blk_lt KR.out
    generalize W1.drewN mm = W1 at KA KR HBB hsz1 ⊢
    obtain ⟨ca0, ca1, ca2, ca3, ca4, ca5, ca6, ca7, ca8, ca9, ca10, ca11, ca12, fa⟩ := cells13 KA.out
    obtain ⟨cr0, cr1, cr2, cr3, cr4, cr5, cr6, cr7, cr8, cr9, cr10, cr11, cr12, fr⟩ := cells13 KR.out
    cases bt with
    | false =>
      gi_wp2
      repeat (refine ⟨trivial, ?_⟩; gi_wp2)
      exact ret_zoneM (rs := []) rfl (HF.out _ (fun hh => by simp at hh) (set13 KR.out (.int .i64 a0_0) (.int .i64 a0_1) (.int .i64 a0_2) (.int .i64 a0_3) (.int .i64 a0_4) (.int .u32 a0_5) (.int .u32 a0_6) (.int .u32 a0_7) (.int .u32 a0_8) (.int .u32 a0_9) (.int .u32 a0_10) (.int .u32 a0_11) (.int .u32 a0_12))) (below13 HBB.out (by omega) _ _ _ _ _ _ _ _ _ _ _ _ _) (by rfl) (by rfl) (Marks.none _ _) (Nat.le_refl _)
    | true =>
      gi_wp2_with fail
      refine ⟨trivial, (callsIn_wide.2 (hcv _)).mono ?_⟩
      clear ca0 ca1 ca2 ca3 ca4 ca5 ca6 ca7 ca8 ca9 ca10 ca11 ca12 cr0 cr1 cr2 cr3 cr4 cr5 cr6 cr7 cr8 cr9 cr10 cr11 cr12 fa fr
      rintro e w' ⟨rfl, ⟨mm, rfl⟩⟩
      have KA := Aside0.mk (show (W1.drewN mm).heap[w.heap.size]? = some (.cells #[.int .i64 a0_0, .int .i64 a0_1, .int .i64 a0_2, .int .i64 a0_3, .int .i64 a0_4, .int .u32 a0_5, .int .u32 a0_6, .int .u32 a0_7, .int .u32 a0_8, .int .u32 a0_9, .int .u32 a0_10, .int .u32 a0_11, .int .u32 a0_12] 25) from KA.out)
      have KR := Aside0.mk (show (W1.drewN mm).heap[w.heap.size + 1]? = some (.cells #[.int .i64 0, .int .i64 0, .int .i64 0, .int .i64 0, .int .i64 0, .int .u32 0, .int .u32 0, .int .u32 0, .int .u32 0, .int .u32 0, .int .u32 0, .int .u32 0, .int .u32 0] 25) from KR.out)
      have HBB : Aside0 (Below w.heap.size w (W1.drewN mm)) := ⟨bN HBB.out _⟩
      have hsz1 : w.heap.size + 1 < (W1.drewN mm).heap.size := blk_lt KR.out
      generalize W1.drewN mm = W1 at KA KR HBB hsz1 ⊢
      obtain ⟨ca0, ca1, ca2, ca3, ca4, ca5, ca6, ca7, ca8, ca9, ca10, ca11, ca12, fa⟩ := cells13 KA.out
      obtain ⟨cr0, cr1, cr2, cr3, cr4, cr5, cr6, cr7, cr8, cr9, cr10, cr11, cr12, fr⟩ := cells13 KR.out
      cases bv with
      | false =>
        gi_wp2
        repeat (refine ⟨trivial, ?_⟩; gi_wp2)
        exact ret_zoneM (rs := []) rfl (HF.out _ (fun hh => by simp at hh) (set13 KR.out (.int .i64 a0_0) (.int .i64 a0_1) (.int .i64 a0_2) (.int .i64 a0_3) (.int .i64 a0_4) (.int .u32 a0_5) (.int .u32 a0_6) (.int .u32 a0_7) (.int .u32 a0_8) (.int .u32 a0_9) (.int .u32 a0_10) (.int .u32 a0_11) (.int .u32 a0_12))) (below13 HBB.out (by omega) _ _ _ _ _ _ _ _ _ _ _ _ _) (by rfl) (by rfl) (Marks.none _ _) (Nat.le_refl _)
      | true =>
        cases bm with
        | true =>
          gi_wp2
          repeat (refine ⟨trivial, ?_⟩; gi_wp2)
          exact ret_zoneM (rs := []) rfl (HF.out _ (fun hh => by simp at hh) (set13 KR.out (.int .i64 a0_0) (.int .i64 a0_1) (.int .i64 a0_2) (.int .i64 a0_3) (.int .i64 a0_4) (.int .u32 a0_5) (.int .u32 a0_6) (.int .u32 a0_7) (.int .u32 a0_8) (.int .u32 a0_9) (.int .u32 a0_10) (.int .u32 a0_11) (.int .u32 a0_12))) (below13 HBB.out (by omega) _ _ _ _ _ _ _ _ _ _ _ _ _) (by rfl) (by rfl) (Marks.none _ _) (Nat.le_refl _)
        | false =>
          have h := H.out
          have h : (if ∀ s ∈ l3, s.size + 2 ≤ 9223372036854775807 then zonemap_join.f a0_0 a0_1 a0_2 a0_3 a0_4 a0_5 a0_6 a0_7 a0_8 a0_9 a0_10 a0_11 a0_12 1 a1 a1 a2 a2 ((bloomL l3).getD 0 0) ((bloomL l3).getD 1 0) ((bloomL l3).getD 2 0) ((bloomL l3).getD 3 0) ((bloomL l3).getD 4 0) ((bloomL l3).getD 5 0) ((bloomL l3).getD 6 0) ((bloomL l3).getD 7 0) else none) = some (r1, r2, r3, r4, r5, r6, r7, r8, r9, r10, r11, r12, r13) := by simpa using h
          by_cases hall : ∀ s ∈ l3, s.size + 2 ≤ 9223372036854775807
          · rw [if_pos hall] at h
            have HJ := Aside0.mk h
            have HALL := Aside0.mk hall
            clear h hall H HF hct hcv
            gi_wp2
            have hcs : #[.int .i64 1, .int .i64 a1, .int .i64 a1, .int .i64 a2, .int .i64 a2, Value.int .u32 0, Value.int .u32 0, Value.int .u32 0, Value.int .u32 0, Value.int .u32 0, Value.int .u32 0, Value.int .u32 0, Value.int .u32 0] = zcells [.int .i64 1, .int .i64 a1, .int .i64 a1, .int .i64 a2, .int .i64 a2] (bloomL (l3.take 0)) := rfl
            obtain ⟨l1, hl1⟩ : ∃ l1 : List Value, l1 = [.int .i64 1, .int .i64 a1, .int .i64 a1, .int .i64 a2, .int .i64 a2] := ⟨_, rfl⟩
            rw [← hl1] at hcs
            have HL1 := Aside0.mk hl1
            have HL15 : Aside0 (l1.length = 5) := ⟨by rw [hl1]; rfl⟩
            clear hl1
            rw [hcs]
            clear hcs
            clear ca0 ca1 ca2 ca3 ca4 ca5 ca6 ca7 ca8 ca9 ca10 ca11 ca12 cr0 cr1 cr2 cr3 cr4 cr5 cr6 cr7 cr8 cr9 cr10 cr11 cr12 fa fr
            have HSZ := Aside0.mk hsz1
            obtain ⟨I, hI⟩ : ∃ I : Act → World → Prop, I = (fun a W => ∃ (k : Nat) (rs : List Nat), (k ≤ l3.length ∧ Marks w.heap.size rs W ∧ W.heap[w.heap.size]? = some (.cells #[.int .i64 a0_0, .int .i64 a0_1, .int .i64 a0_2, .int .i64 a0_3, .int .i64 a0_4, .int .u32 a0_5, .int .u32 a0_6, .int .u32 a0_7, .int .u32 a0_8, .int .u32 a0_9, .int .u32 a0_10, .int .u32 a0_11, .int .u32 a0_12] 25) ∧ W.heap[w.heap.size + 1]? = some (.cells #[.int .i64 0, .int .i64 0, .int .i64 0, .int .i64 0, .int .i64 0, .int .u32 0, .int .u32 0, .int .u32 0, .int .u32 0, .int .u32 0, .int .u32 0, .int .u32 0, .int .u32 0] 25) ∧ W.heap[W1.heap.size]? = some (.cells (zcells l1 (bloomL (l3.take k))) 25) ∧ Below w.heap.size w W) ∧
                ∃ u5 u6 u7 u10 u11 u12 u13 u14 u15 u16 u17 u18 u19 u20 u21 u22 u23 u24 u25 u26 u27 u28 u29 u30 u31 u32 u33 u34 u35 u36 u40 u41 u42 u43 u44 u45 u46 u47 u48 u49 u50 u51 u52 u53 u54 u55 u56 u57 u58 u59 u60 : Value, a = { tmps := #[.agg #[.int .i64 a0_0, .int .i64 a0_1, .int .i64 a0_2, .int .i64 a0_3, .int .i64 a0_4, .int .u32 a0_5, .int .u32 a0_6, .int .u32 a0_7, .int .u32 a0_8, .int .u32 a0_9, .int .u32 a0_10, .int .u32 a0_11, .int .u32 a0_12], .int .i64 a1, .int .i64 a2, .slice A3 l3.length c3, .pointer (some ⟨w.heap.size, 0, none⟩), u5, u6, u7, .pointer (some ⟨w.heap.size + 1, 0, none⟩), .pointer (some ⟨W1.heap.size, 0, none⟩), u10, u11, u12, u13, u14, u15, u16, u17, u18, u19, u20, u21, u22, u23, u24, u25, u26, u27, u28, u29, u30, u31, u32, u33, u34, u35, u36, .slice A3 l3.length c3, .int .i64 l3.length, .int .i64 k, u40, u41, u42, u43, u44, u45, u46, u47, u48, u49, u50, u51, u52, u53, u54, u55, u56, u57, u58, u59, u60], defers := rs.map mkD }) := ⟨_, rfl⟩
            have HI := Aside0.mk hI
            clear hI
            refine wpIn_loop I (fun a _ => l3.length - (intOf (a.tmps.getD 39 undef)).toNat) ?start ?round
            case start =>
              rw [HI.out]
              exact ⟨0, [], ⟨Nat.zero_le _, Marks.none _ _, (Below.heap_alloc _ _ _ (blk_lt KA.out)).trans KA.out, (Below.heap_alloc _ _ _ (blk_lt KR.out)).trans KR.out, World.alloc_heap_new _ _, bA HBB.out _⟩, _, _, _, _, _, _, _, _, _, _, _, _, _, _, _, _, _, _, _, _, _, _, _, _, _, _, _, _, _, _, _, _, _, _, _, _, _, _, _, _, _, _, _, _, _, _, _, _, _, _, _, rfl⟩
            case round =>
              intro a W hIa
              rw [HI.out] at hIa
              obtain ⟨k, rs, ⟨hk, hmk, hA, hR, hO, hbel⟩, u5, u6, u7, u10, u11, u12, u13, u14, u15, u16, u17, u18, u19, u20, u21, u22, u23, u24, u25, u26, u27, u28, u29, u30, u31, u32, u33, u34, u35, u36, u40, u41, u42, u43, u44, u45, u46, u47, u48, u49, u50, u51, u52, u53, u54, u55, u56, u57, u58, u59, u60, rfl⟩ := hIa
              have HMK := Aside0.mk hmk
              have HA := Aside0.mk hA
              have HR := Aside0.mk hR
              have HO := Aside0.mk hO
              have HBel := Aside0.mk hbel
              have hszW := blk_lt hO
              clear hmk hA hR hO hbel
              by_cases ck : k < l3.length
              · obtain ⟨s, hs⟩ : ∃ s, s = l3.getD k ByteArray.empty := ⟨_, rfl⟩
                obtain ⟨ad, e1, hcell⟩ := Kd.at_string (Kd.C_below HR3.out HBel.out) (k : Int) (by omega) (by omega)
                cases e1
                simp only [Int.toNat_natCast] at hcell
                rw [show rdOf ByteArray.empty l3 (k : Int) = s from by rw [hs]; rfl] at hcell
                have HS := Aside0.mk hs
                clear hs
                have hck1 : (0 : Int) ≤ (k : Int) := by omega
                have HMKlt : Aside0 (∀ r ∈ rs, r < W.heap.size) := ⟨fun r hr => HMK.out.lt hr⟩
                have hss : s.size + 2 ≤ 9223372036854775807 := HALL.out s (by rw [HS.out, List.getD_eq_getElem?_getD, List.getElem?_eq_getElem ck]; exact List.getElem_mem _)
                have HB8 : Aside0 ((bloomL (l3.take k)).length = 8) := ⟨by unfold bloomL; rw [setL_length]; rfl⟩
                gi_wp2_with fail
                refine ⟨trivial, (bits_in _ _ _).mono ?_⟩
                rintro e w' ⟨rfl, rfl⟩
                gi_wp2
                refine rangeFunc_L (F := Fence.wide) rfl (by omega) (gf := 53) (lb := #[.pointer (some ⟨W.heap.size, 0, none⟩)]) rfl trivial (enters_of Try.func53 (by kernel_rfl) rfl)
                  (bits_seq (4 - 1) (by omega) _ s hss _ (Boxed.new W 9 (.string s))) keepBox_t (fun W l o o' hl ho h1 h2 => keepBox_b W l o o' hl ho h1 h2) (Below.refl _ _) (fun _ => rfl)
                  (fun j W' => Marks w.heap.size rs W' ∧ W'.heap[w.heap.size]? = some (.cells #[.int .i64 a0_0, .int .i64 a0_1, .int .i64 a0_2, .int .i64 a0_3, .int .i64 a0_4, .int .u32 a0_5, .int .u32 a0_6, .int .u32 a0_7, .int .u32 a0_8, .int .u32 a0_9, .int .u32 a0_10, .int .u32 a0_11, .int .u32 a0_12] 25) ∧ W'.heap[w.heap.size + 1]? = some (.cells #[.int .i64 0, .int .i64 0, .int .i64 0, .int .i64 0, .int .i64 0, .int .u32 0, .int .u32 0, .int .u32 0, .int .u32 0, .int .u32 0, .int .u32 0, .int .u32 0, .int .u32 0] 25) ∧ W'.heap[W1.heap.size]? = some (.cells (zcells l1 (setS (bloomL (l3.take k)) s j)) 25) ∧ Below w.heap.size w W')
                  (fun c j W' => False)
                  (fun j X Y row hs hg hr => by
                    obtain ⟨h1, h2, h3, h4, h5⟩ := hs
                    exact ⟨h1.grown hg hr (fun r hm => by have := HMKlt.out r hm; simp; omega), blk_keptA h2 hg hr, blk_keptA h3 hg hr, blk_keptA h4 hg hr, below_kept h5 (Nat.le_refl _) (by simp; omega) hg hr⟩)
                  (fun c s X Y row hs hg hr => hs.elim)
                  ⟨HMK.out.grown (World.grownBy_alloc W _ none) (Bnd := W.heap.size) (fun r e => by cases e) HMKlt.out, (Below.heap_alloc _ _ _ (blk_lt HA.out)).trans HA.out, (Below.heap_alloc _ _ _ (blk_lt HR.out)).trans HR.out, (Below.heap_alloc _ _ _ (blk_lt HO.out)).trans HO.out, bA HBel.out _⟩
                  (fun j => { tmps := #[.agg #[.int .i64 a0_0, .int .i64 a0_1, .int .i64 a0_2, .int .i64 a0_3, .int .i64 a0_4, .int .u32 a0_5, .int .u32 a0_6, .int .u32 a0_7, .int .u32 a0_8, .int .u32 a0_9, .int .u32 a0_10, .int .u32 a0_11, .int .u32 a0_12], .int .i64 a1, .int .i64 a2, .slice (some ad) l3.length c3, .pointer (some ⟨w.heap.size, 0, none⟩), u5, u6, u7, .pointer (some ⟨w.heap.size + 1, 0, none⟩), .pointer (some ⟨W1.heap.size, 0, none⟩), u10, .string s, .int .i64 (bitn s j), u13, u14, u15, u16, u17, u18, u19, u20, u21, u22, u23, u24, u25, u26, u27, u28, u29, u30, u31, u32, u33, u34, u35, u36, .slice (some ad) l3.length c3, .int .i64 l3.length, .int .i64 k, .bool true, .pointer (some (ad.add k)), .string s, .string s, .func (.func 53) #[] #[.pointer (some ⟨W.heap.size, 0, none⟩)], .int .i64 (bitn s j), u46, u47, u48, u49, u50, u51, u52, u53, u54, u55, u56, u57, u58, u59, u60], defers := [] }) ?assign ?body ?done ?stop
                case assign =>
                  intro l j W' K hj hK
                  gi_wp2
                  exact hK
                case body =>
                  rintro l j W' hj ⟨h1, h2, h3, h4, h5⟩
                  obtain ⟨n, hn, hn2⟩ : ∃ n : Nat, bitn s j = n ∧ n < 256 := by
                    have := bitn_range s j
                    exact ⟨(bitn s j).toNat, by omega, by omega⟩
                  obtain ⟨ws, hws⟩ : ∃ ws, ws = setS (bloomL (l3.take k)) s j := ⟨_, rfl⟩
                  have hwl : ws.length = 8 := by rw [hws, setS_length, HB8.out]
                  have hsucc : setS (bloomL (l3.take k)) s (j + 1) = ws.set (n / 32) (Go.bits .or .u32 (ws[n / 32]?.getD 0) (2 ^ (n % 32) % 4294967296)) := by
                    rw [setS, ← hws, hn, setW_nat]
                  have HSU := Aside0.mk hsucc
                  rw [← hws] at h4
                  have hc : W'.cell? ⟨W1.heap.size, 5 + n / 32, none⟩ = some (.int .u32 (ws.getD (n / 32) 0)) := by
                    have := zcells_cell h4 (q := n / 32) (by rw [hwl]; omega)
                    rw [HL15.out] at this
                    exact this
                  have hf := blk_frozen h4 (5 + n / 32)
                  have hb1 : n / 32 < 8 := by omega
                  dsimp only
                  rw [hn]
                  have H1 := Aside0.mk h1
                  have H2 := Aside0.mk h2
                  have H3 := Aside0.mk h3
                  have H4 := Aside0.mk h4
                  have H5 := Aside0.mk h5
                  clear hws hn hsucc h1 h2 h3 h4 h5 hwl
                  obtain ⟨x, hx⟩ : ∃ x, x = ws.getD (n / 32) 0 := ⟨_, rfl⟩
                  rw [← hx] at hc
                  have HX := Aside0.mk hx
                  clear hx
                  gi_wp2
                  have g1 : IntKind.i64.wrap ((n : Int) / 32) = (n : Int) / 32 := IntWalk.i64_in _ (by omega)
                  have g2 : (0 : Int) ≤ (n : Int) / 32 := by omega
                  have g3 : ((n : Int) / 32).toNat = n / 32 := by omega
                  have g4 : (n : Int) / 32 < 8 := by omega
                  have g5 : (0 : Int) ≤ (n : Int) % 32 := by omega
                  have g6 : ((n : Int) % 32).toNat = n % 32 := by omega
                  have g7 : IntKind.i64.wrap ((n : Int) % 32) = (n : Int) % 32 := IntWalk.i64_in _ (by omega)
                  have g8 : (n : Int).tmod 32 = (n : Int) % 32 := by rw [Int.tmod_eq_emod_of_nonneg (by omega)]
                  have g9 := run_shl1 Try.prog n
                  refine round_still_tail 11 (by kernel_rfl) (by kernel_rfl) (by kernel_rfl) (fun ⟨_, _, h⟩ => h) ?_
                  simp only [List.take_succ_cons, List.take_zero, List.drop_succ_cons, List.drop_zero]
                  repeat still_step
                  refine wpStill_nil ?_
                  change wpList _ _ _ _ _ W'.drew
                  go_wp2
                  gi_wp2
                  refine ⟨(KeepsFrom.trans ((KeepsOthers.setCell _ _ _).from _) (keepsFrom_drewN _ _ 1)), fun v hv => (heap_setCell_ne (show W.heap.size ≠ W1.heap.size by omega) _ _).trans hv, H1.out.keeps (KeepsFrom.trans ((KeepsOthers.setCell _ _ _).from _) (keepsFrom_drewN _ _ 1)), (heap_setCell_ne (by have := HSZ.out; omega) _ _).trans H2.out, (heap_setCell_ne (by have := HSZ.out; omega) _ _).trans H3.out, ?_, bD (H5.out.setCell (p := ⟨_, 5 + n / 32, none⟩) (by have := HSZ.out; show w.heap.size ≤ W1.heap.size; omega) _)⟩
                  have h4 := heap_setCell H4.out (5 + n / 32) (.int .u32 (Go.bits .or .u32 x (2 ^ (n % 32) % 4294967296)))
                  rw [show 5 + n / 32 = l1.length + n / 32 by rw [HL15.out], zcells_set] at h4
                  rw [HSU.out, ← List.getD_eq_getElem?_getD, ← HX.out]
                  rw [HL15.out] at h4
                  exact h4
                case done =>
                  rintro D W' hD ⟨h1, h2, h3, h4, h5⟩ hK
                  have hD2 : W.heap.size ≤ D := by simp at hD; omega
                  have HMK2 := Aside0.mk (h1.cons (fun r hr => Nat.lt_of_lt_of_le (HMKlt.out r hr) hD2) (by have := HBel.out.size; omega) hK)
                  have H2 := Aside0.mk h2
                  have H3 := Aside0.mk h3
                  have H4 := Aside0.mk h4
                  have H5 := Aside0.mk h5
                  clear hK h1 h2 h3 h4 h5
                  have hnext : bloomL (l3.take (k + 1)) = setS (bloomL (l3.take k)) s 3 := by
                    rw [List.take_succ_eq_append_getElem ck]
                    unfold bloomL
                    rw [setL_snoc, HS.out, List.getD_eq_getElem?_getD, List.getElem?_eq_getElem ck]
                    rfl
                  have HN := Aside0.mk hnext
                  clear hnext
                  gi_wp2
                  refine ⟨?_, by simp [intOf]; omega⟩
                  rw [HI.out]
                  exact ⟨k + 1, D :: rs, ⟨by omega, HMK2.out, H2.out, H3.out, by rw [HN.out]; exact H4.out, H5.out⟩, _, _, _, _, _, _, _, _, _, _, _, _, _, _, _, _, _, _, _, _, _, _, _, _, _, _, _, _, _, _, _, _, _, _, _, _, _, _, _, _, _, _, _, _, _, _, _, _, _, _, _, rfl⟩
                case stop =>
                  rintro D c j W' hD hj hf hK
                  exact hf.elim
              · obtain rfl : k = l3.length := by omega
                have HB8 : (bloomL l3).length = 8 := by unfold bloomL; rw [setL_length]; rfl
                have HO2 : Aside0 (W.heap[W1.heap.size]? = some (.cells #[.int .i64 1, .int .i64 a1, .int .i64 a1, .int .i64 a2, .int .i64 a2, .int .u32 ((bloomL l3).getD 0 0), .int .u32 ((bloomL l3).getD 1 0), .int .u32 ((bloomL l3).getD 2 0), .int .u32 ((bloomL l3).getD 3 0), .int .u32 ((bloomL l3).getD 4 0), .int .u32 ((bloomL l3).getD 5 0), .int .u32 ((bloomL l3).getD 6 0), .int .u32 ((bloomL l3).getD 7 0)] 25)) := ⟨by
                  rw [HO.out, List.take_length, HL1.out]
                  have := list8 HB8
                  unfold zcells
                  rw [show (bloomL l3).map (Value.int .u32) = [Value.int .u32 ((bloomL l3).getD 0 0), Value.int .u32 ((bloomL l3).getD 1 0), Value.int .u32 ((bloomL l3).getD 2 0), Value.int .u32 ((bloomL l3).getD 3 0), Value.int .u32 ((bloomL l3).getD 4 0), Value.int .u32 ((bloomL l3).getD 5 0), Value.int .u32 ((bloomL l3).getD 6 0), Value.int .u32 ((bloomL l3).getD 7 0)] from by rw [this]; rfl]
                  rfl⟩
                clear HB8
                obtain ⟨g0, g1, g2, g3, g4, g5, g6, g7, hg⟩ : ∃ g0 g1 g2 g3 g4 g5 g6 g7 : Int, g0 = (bloomL l3).getD 0 0 ∧ g1 = (bloomL l3).getD 1 0 ∧ g2 = (bloomL l3).getD 2 0 ∧ g3 = (bloomL l3).getD 3 0 ∧ g4 = (bloomL l3).getD 4 0 ∧ g5 = (bloomL l3).getD 5 0 ∧ g6 = (bloomL l3).getD 6 0 ∧ g7 = (bloomL l3).getD 7 0 := ⟨_, _, _, _, _, _, _, _, rfl, rfl, rfl, rfl, rfl, rfl, rfl, rfl⟩
                obtain ⟨e0, e1, e2, e3, e4, e5, e6, e7⟩ := hg
                rw [← e0, ← e1, ← e2, ← e3, ← e4, ← e5, ← e6, ← e7] at HO2 HJ
                clear e0 e1 e2 e3 e4 e5 e6 e7
                obtain ⟨ca0, ca1, ca2, ca3, ca4, ca5, ca6, ca7, ca8, ca9, ca10, ca11, ca12, fa⟩ := cells13 HA.out
                obtain ⟨co0, co1, co2, co3, co4, co5, co6, co7, co8, co9, co10, co11, co12, fo⟩ := cells13 HO2.out
                gi_wp2_with fail
                refine ⟨trivial, (callsIn_wide.2 (zonemap_join.calls a0_0 a0_1 a0_2 a0_3 a0_4 a0_5 a0_6 a0_7 a0_8 a0_9 a0_10 a0_11 a0_12 1 a1 a1 a2 a2 g0 g1 g2 g3 g4 g5 g6 g7 _ _ _ _ _ _ _ _ _ _ _ _ _ _ HJ.out)).mono ?_⟩
                clear ca0 ca1 ca2 ca3 ca4 ca5 ca6 ca7 ca8 ca9 ca10 ca11 ca12 co0 co1 co2 co3 co4 co5 co6 co7 co8 co9 co10 co11 co12 fa fo
                rintro e W2 ⟨rfl, hb2⟩
                have HR2 := Aside0.mk ((hb2.block _ (blk_lt HR.out)).trans HR.out)
                have HM2 : Aside0 (Marks w.heap.size rs W2) := ⟨HMK.out.nodup, HMK.out.ge, fun r hr => (hb2.block _ (HMK.out.lt hr)).trans (HMK.out.has r hr)⟩
                have HBel2 : Aside0 (Below w.heap.size w W2) := ⟨HBel.out.trans (hb2.mono (by have := HBel.out.size; omega))⟩
                clear hb2
                obtain ⟨cr0, cr1, cr2, cr3, cr4, cr5, cr6, cr7, cr8, cr9, cr10, cr11, cr12, fr⟩ := cells13 HR2.out
                gi_wp2
                exact ret_zoneM rfl (set13 HR2.out (.int .i64 r1) (.int .i64 r2) (.int .i64 r3) (.int .i64 r4) (.int .i64 r5) (.int .u32 r6) (.int .u32 r7) (.int .u32 r8) (.int .u32 r9) (.int .u32 r10) (.int .u32 r11) (.int .u32 r12) (.int .u32 r13)) (below13 HBel2.out (by omega) _ _ _ _ _ _ _ _ _ _ _ _ _) (by rfl) (by rfl) (marks13 HM2.out _ _ _ _ _ _ _ _ _ _ _ _ _) (Nat.le_refl _)
          · rw [if_neg hall] at h; cases h
  · have t1 : (ea != 0) = true := bne_iff_ne.2 ca
    have HC := Aside0.mk ca
    clear ca
    gi_wp2
    repeat (refine ⟨trivial, ?_⟩; gi_wp2)
    exact ret_zoneM (rs := []) rfl (HF.out _ (fun hh => HC.out hh.1) (set13 KR.out (.int .i64 a0_0) (.int .i64 a0_1) (.int .i64 a0_2) (.int .i64 a0_3) (.int .i64 a0_4) (.int .u32 a0_5) (.int .u32 a0_6) (.int .u32 a0_7) (.int .u32 a0_8) (.int .u32 a0_9) (.int .u32 a0_10) (.int .u32 a0_11) (.int .u32 a0_12))) (below13 HBB.out (by omega) _ _ _ _ _ _ _ _ _ _ _ _ _) (by rfl) (by rfl) (Marks.none _ _) (Nat.le_refl _)
end Go.Proofs.Ytdokabaeddaipaa.Hand
end
