/- Several texts of this session in one. No condition beyond those in the statements. -/
import Derived.Shelf.Strings.Builder1
import Derived.Test.YthblifjeecdhcaaProg
import Derived.Test.YthblifjeecdhcaaAx5
import Derived.Test.YthblifjeecdhcaaAx9
import Derived.Test.YthblifjeecdhcaaWMore
import Derived.RangeFuncBox
import Derived.WalkKit
import Derived.Test.YthblifjeecdhcaaBA
section
namespace Go.Proofs.Ythblifjeecdhcaa.Hand
open Go.RowKit Go.Shelf
def bren : Ren := ⟨fun | 166 => 48 | 169 => 49 | 240 => 60 | 276 => 70 | n => n,
  fun | 0 => 0 | 3 => 3 | 4 => 4 | 5 => 5 | 9 => 9 | 20 => 20 | 37 => 65 | 70 => 64 | 72 => 67 | 75 => 70 | 80 => 74 | 127 => 85 | 164 => 94 | n => n, fun n => n⟩
theorem blay166 : Lays.n166 Try.prog bren := {
  mixed := by kernel_rfl
  f166 := Try.func48.trans (congrArg some (by kernel_rfl))
  f240 := Try.func60.trans (congrArg some (by kernel_rfl))
  f276 := Try.func70.trans (congrArg some (by kernel_rfl))
  t0 := Try.underlying0
  a0 := Try.isAgg0
  z0 := Try.sizeOf0
  v0 := Try.zeroValue0
  t3 := Try.underlying3
  a3 := Try.isAgg3
  z3 := Try.sizeOf3
  v3 := Try.zeroValue3
  t4 := Try.underlying4
  a4 := Try.isAgg4
  z4 := Try.sizeOf4
  v4 := Try.zeroValue4
  t9 := Try.underlying9
  a9 := Try.isAgg9
  z9 := Try.sizeOf9
  v9 := Try.zeroValue9
  t20 := Try.underlying20
  a20 := Try.isAgg20
  z20 := Try.sizeOf20
  v20 := Try.zeroValue20
  t37 := Try.underlying65
  a37 := Try.isAgg65
  z37 := Try.sizeOf65
  v37 := Try.zeroValue65
  t70 := Try.underlying64
  a70 := Try.isAgg64
  z70 := Try.sizeOf64
  v70 := Try.zeroValue64
  t72 := Try.underlying67
  a72 := Try.isAgg67
  z72 := Try.sizeOf67
  v72 := Try.zeroValue67
  t75 := Try.underlying70
  a75 := Try.isAgg70
  z75 := Try.sizeOf70
  v75 := Try.zeroValue70
  t164 := Try.underlying94
  a164 := Try.isAgg94
  z164 := Try.sizeOf94
  v164 := Try.zeroValue94 }
theorem blay169 : Lays.n169 Try.prog bren := {
  mixed := by kernel_rfl
  f169 := Try.func49.trans (congrArg some (by kernel_rfl))
  t0 := Try.underlying0
  a0 := Try.isAgg0
  z0 := Try.sizeOf0
  v0 := Try.zeroValue0
  t3 := Try.underlying3
  a3 := Try.isAgg3
  z3 := Try.sizeOf3
  v3 := Try.zeroValue3
  t9 := Try.underlying9
  a9 := Try.isAgg9
  z9 := Try.sizeOf9
  v9 := Try.zeroValue9
  t37 := Try.underlying65
  a37 := Try.isAgg65
  z37 := Try.sizeOf65
  v37 := Try.zeroValue65
  t70 := Try.underlying64
  a70 := Try.isAgg64
  z70 := Try.sizeOf64
  v70 := Try.zeroValue64
  t72 := Try.underlying67
  a72 := Try.isAgg67
  z72 := Try.sizeOf67
  v72 := Try.zeroValue67
  t127 := Try.underlying85
  a127 := Try.isAgg85
  z127 := Try.sizeOf85
  v127 := Try.zeroValue85 }
theorem bextra : Builder.Extra Try.prog bren := {
  sizeBuilder := by kernel_rfl
  liesBuilder := by kernel_rfl
  t5 := Try.underlying5
  a5 := Try.isAgg5
  z5 := Try.sizeOf5
  v5 := Try.zeroValue5
  infoByte := by kernel_rfl
  cellsByte := by kernel_rfl
  sizeByte := by kernel_rfl
  neB5 := by decide }
theorem builder_write (B b : Nat) (bs : List Value) (s : ByteArray) (w : World) (h : Lib.IsBuilder 67 5 B b bs w) (hlen : bs.length + s.size ≤ 140737488355328) (hBw : B ≤ w.heap.size) :
    Calls Try.prog 48 #[.pointer (some ⟨b, 0, none⟩), .string s] w fun e w' => e = .returned (.tuple #[.int .i64 s.size, .nilIface]) ∧ (Lib.BuilderAt 67 5 B b (.pointer (some ⟨b, 0, none⟩)) (bs ++ Lib.strCells s) w' ∧ Below B w w') :=
  Any.Builder_WriteString blay166 bextra B b bs s w h hlen hBw
theorem builder_string (B b : Nat) (l : List UInt8) (w : World) (h : Lib.IsBuilder 67 5 B b (Lib.byteCells l) w) (hBw : B ≤ w.heap.size) :
    Calls Try.prog 49 #[.pointer (some ⟨b, 0, none⟩)] w fun e w' => e = .returned (.string ⟨l.toArray⟩) ∧ Below B w w' :=
  Any.Builder_String_any blay169 bextra B b l w h hBw
end Go.Proofs.Ythblifjeecdhcaa.Hand
end
section
namespace Go.Proofs.Ythblifjeecdhcaa.Hand
open Go.RowKit Go.Shelf Go.Proofs.YthblifjeecdhcaaW.PrintWords Go.Proofs.YthblifjeecdhcaaW.PrintMore Go.Proofs.Ythblifjeecdhcaa.A
set_option linter.unusedVariables false
theorem isBuilder_below {T e : TypeId} {B b : Nat} {bs : List Value} {W W' : World} (h : Lib.IsBuilder T e B b bs W) (hb : Below W.heap.size W W') : Lib.IsBuilder T e B b bs W' := by
  have one : ∀ p, Lib.BuilderAt T e B b p bs W → Lib.BuilderAt T e B b p bs W' := fun p ⟨h1, v, h2, h3, h4⟩ =>
    ⟨h1, v, (hb.block b (Array.getElem?_eq_some_iff.1 h2).1).trans h2, own_move h3 (fun k hk => hb.block k (own_lt h3 k hk)), h4⟩
  rcases h with h | h
  · exact .inl (one _ h)
  · exact .inr (one _ h)
theorem isBuilder_new (W : World) (T e : TypeId) (b : Nat) (hb : b = W.heap.size) : Lib.IsBuilder T e b b [] (W.alloc (.cells #[.pointer none, .slice none 0 0] T)) := by
  subst hb
  exact .inl ⟨Nat.le_refl _, .slice none 0 0, World.alloc_heap_new W _, World.ownsRow_nil _ _ _ _, by simp [Value.ownBlock]⟩
theorem strCells_append (a b : ByteArray) : Lib.strCells (a ++ b) = Lib.strCells a ++ Lib.strCells b := by simp [Lib.strCells, ByteArray.data_append]
def numG (k : Nat) (n : Int) (acc : ByteArray) : Option ByteArray := (varint_Append.f k ⟨#[]⟩ n).bind fun p => if acc.size + p.1.size ≤ 140737488355328 then some (acc ++ p.1) else none
def encG (k : Nat) : List Int → Int → ByteArray → Option ByteArray
  | [], _, acc => some acc
  | x :: r, last, acc => (numG k (wrap64 (x - last)) acc).bind fun a => encG k r x a
def kmv_Encode.f (k : Nat) (a0_0 a0_1 : Int) (l0_2 : List Int) : Option (ByteArray × Int) := (kmv_Check.f k a0_0 a0_1 l0_2).bind fun t => if t = 0 then ((numG k a0_0 ⟨#[]⟩).bind fun a => (numG k a0_1 a).bind fun b => (numG k (l0_2.length : Int) b).bind fun c => (encG k l0_2 0 c).bind fun s => some (s, 0)) else some (⟨#[]⟩, 1)
theorem numG_mono (n : Int) (acc : ByteArray) (k : Nat) : LeO (numG k n acc) (numG (k + 1) n acc) := LeO.bind (varint_Append.mono _ _ _) (fun _ => LeO.refl _)
theorem encG_mono : ∀ (l : List Int) (b : Int) (acc : ByteArray) (k : Nat), LeO (encG k l b acc) (encG (k + 1) l b acc)
  | [], _, _, _ => LeO.refl _
  | x :: r, b, acc, k => LeO.bind (numG_mono _ _ _) (fun a => encG_mono r x a k)
theorem kmv_Encode.mono : ∀ a0 a1 a2 k, LeO (kmv_Encode.f k a0 a1 a2) (kmv_Encode.f (k + 1) a0 a1 a2) := by
  intro a0 a1 a2 k
  unfold kmv_Encode.f
  refine LeO.bind (kmv_Check.mono _ _ _ _) (fun t => ?_)
  split
  · exact LeO.bind (numG_mono _ _ _) (fun _ => LeO.bind (numG_mono _ _ _) (fun _ => LeO.bind (numG_mono _ _ _) (fun _ => LeO.bind (encG_mono _ _ _ _) (fun _ => LeO.refl _))))
  · exact LeO.refl _
theorem drop_rd' {l : List Int} {i : Nat} (h : i < l.length) : l.drop i = rd l (i : Int) :: l.drop (i + 1) := by
  rw [List.drop_eq_getElem_cons h]
  congr 1
  simp [rd, List.getD, List.getElem?_eq_getElem h]
abbrev IsB (b : Nat) (s : ByteArray) (w : World) : Prop := Lib.IsBuilder 67 5 b b (Lib.strCells s) w
set_option maxHeartbeats 2000000 in
theorem enc_clo (k : Nat) (n : Int) (acc r : ByteArray) (b : Nat) (w : World) (hI : Aside0 (IsB b acc w)) (hb : b < w.heap.size) (h : numG k n acc = some r) :
    Calls Try.prog 46 #[.int .i64 n, .pointer (some ⟨b, 0, none⟩)] w fun e w' => e = .returned (.tuple #[]) ∧ Aside0 (IsB b r w') ∧ Below b w w' := by
  unfold numG at h
  obtain ⟨p, hp, h⟩ := Option.bind_eq_some_iff.1 h
  split at h
  case isFalse => cases h
  rename_i hlen
  cases h
  have HP := Aside0.mk hp
  clear hp
  go_enter Try.func46, Try.ntmps46
  go_wp2_with fail
  refine (varint_Append.calls k ⟨#[]⟩ n p.1 p.2 _ HP.out).mono ?_
  rintro e W3 ⟨rfl, hb3⟩
  have hI3 := Aside0.mk (isBuilder_below hI.out hb3)
  have hB3 := Aside0.mk (hb3.mono (Nat.le_of_lt hb))
  have hs3 := hb3.size
  clear hb3 hI
  go_wp2_with fail
  refine (builder_write b b (Lib.strCells acc) p.1 W3 hI3.out (by rw [Lib.strCells_length]; exact hlen) (by omega)).mono ?_
  rintro e W4 ⟨rfl, hA4, hb4⟩
  have hI4 : Aside0 (IsB b (acc ++ p.1) W4) := ⟨by unfold IsB; rw [strCells_append]; exact .inr hA4⟩
  have hB4 := hB3.out.trans hb4
  clear hA4 hb4 hB3 hI3
  go_wp2
  first | go_end0 | ((try simp only [Exit.inBlock, Exit.then]); refine bodyPost_ret (results_none rfl _ _ _) rfl ?_)
  exact ⟨rfl, hI4, hB4⟩
set_option maxRecDepth 100000 in
set_option maxHeartbeats 8000000 in
theorem kmv_Encode.calls (k : Nat) (a0_0 a0_1 : Int) (A0_2 : Option Addr) (c0_2 : Nat) (l0_2 : List Int) (r1 : ByteArray) (r2 : Int) (w : World) (hr0_2 : Kd.C (Kd.int .i64) w A0_2 l0_2.length l0_2) (hc0_2 : l0_2.length ≤ c0_2) (h : kmv_Encode.f k a0_0 a0_1 l0_2 = some (r1, r2)) :
    Calls Try.prog 30 #[.agg #[.int .i64 a0_0, .int .i64 a0_1, .slice A0_2 l0_2.length c0_2]] w fun e w' => e = .returned (.tuple #[.string r1, .int .i64 r2]) ∧ Below w.heap.size w w' := by
  unfold kmv_Encode.f at h
  obtain ⟨t, ht, h⟩ := Option.bind_eq_some_iff.1 h
  have hm0 := hr0_2.2.1
  have HR := Aside0.mk hr0_2
  have HT := Aside0.mk ht
  clear hr0_2 ht
  obtain ⟨W1, hW1⟩ : ∃ W1, W1 = w.alloc (.cells #[.int .i64 a0_0, .int .i64 a0_1, .slice A0_2 l0_2.length c0_2] 24) := ⟨_, rfl⟩
  have HB1 : Aside0 (Below w.heap.size w W1) := ⟨by rw [hW1]; exact (Below.refl _ w).alloc (Nat.le_refl _) _⟩
  have K1 : Aside0 (W1.heap[w.heap.size]? = some (.cells #[.int .i64 a0_0, .int .i64 a0_1, .slice A0_2 l0_2.length c0_2] 24 (0, 0))) := ⟨by rw [hW1]; exact World.alloc_heap_new w _⟩
  go_enter Try.func30, Try.ntmps30
  go_wp2_with fail
  rw [← hW1]
  refine (kmv_Check.calls k a0_0 a0_1 _ _ l0_2 t _ (Kd.C_below HR.out HB1.out) hc0_2 HT.out).mono ?_
  rintro e W2 ⟨rfl, hb2⟩
  have HB2 := Aside0.mk (HB1.out.trans (hb2.mono HB1.out.size))
  have K2 := Aside0.mk ((hb2.block _ (Array.getElem?_eq_some_iff.1 K1.out).1).trans K1.out)
  clear hb2 HB1 K1 hW1 W1
  by_cases c1 : t = 0
  · rw [if_pos c1] at h
    have c1b : (t != 0) = false := bne_eq_false_iff_eq.mpr c1
    clear c1
    obtain ⟨a, ha, h⟩ := Option.bind_eq_some_iff.1 h
    obtain ⟨b, hb, h⟩ := Option.bind_eq_some_iff.1 h
    obtain ⟨c, hc, h⟩ := Option.bind_eq_some_iff.1 h
    obtain ⟨s, hs, h⟩ := Option.bind_eq_some_iff.1 h
    cases h
    have HA := Aside0.mk ha
    have HBb := Aside0.mk hb
    have HCc := Aside0.mk hc
    have HS := Aside0.mk hs
    clear ha hb hc hs
    obtain ⟨W3, hW3⟩ : ∃ W3, W3 = W2.alloc (.cells #[.pointer none, .slice none 0 0] 67) := ⟨_, rfl⟩
    obtain ⟨nb, hnb⟩ : ∃ nb, nb = W2.heap.size := ⟨_, rfl⟩
    have I3 : Aside0 (IsB nb ⟨#[]⟩ W3) := ⟨by rw [hW3]; exact isBuilder_new W2 _ _ nb hnb⟩
    have HB3 : Aside0 (Below w.heap.size w W3) := ⟨by rw [hW3]; exact HB2.out.alloc HB2.out.size _⟩
    have k3 : W3.heap[w.heap.size]? = some (.cells #[.int .i64 a0_0, .int .i64 a0_1, .slice A0_2 l0_2.length c0_2] 24 (0, 0)) := by rw [hW3]; exact blk_alloc K2.out _
    have hlt : w.heap.size < nb := by rw [hnb]; exact (Array.getElem?_eq_some_iff.1 K2.out).1
    have hs3 : nb < W3.heap.size := by rw [hW3, hnb]; simp
    have K3 := Aside0.mk k3
    clear k3
    have k2 := K2.out
    have q0 : (W2.alloc (.cells #[.pointer none, .slice none 0 0] 67)).cell? ⟨w.heap.size, 0, none⟩ = some (.int .i64 a0_0) := (blk_cell (blk_alloc k2 _) 0).trans rfl
    clear k2
    go_wp2_with fail
    rw [← hW3, ← hnb]
    refine (enc_clo k a0_0 ⟨#[]⟩ a nb W3 I3 hs3 HA.out).mono ?_
    rintro e W4 ⟨rfl, I4, hb4⟩
    have hs4 : nb < W4.heap.size := Nat.lt_of_lt_of_le hs3 hb4.size
    have k4 := (hb4.block w.heap.size hlt).trans K3.out
    have HB4 := Aside0.mk (HB3.out.trans (hb4.mono (Nat.le_of_lt hlt)))
    clear hb4 HB3 K3 I3 q0 HB2 K2 hW3 hnb
    have q1 : W4.cell? ⟨w.heap.size, 1, none⟩ = some (.int .i64 a0_1) := (blk_cell k4 1).trans rfl
    have K4 := Aside0.mk k4
    clear k4
    go_wp2_with fail
    refine (enc_clo k a0_1 a b nb W4 I4 hs4 HBb.out).mono ?_
    rintro e W5 ⟨rfl, I5, hb5⟩
    have hs5 : nb < W5.heap.size := Nat.lt_of_lt_of_le hs4 hb5.size
    have k5 := (hb5.block w.heap.size hlt).trans K4.out
    have HB5 := Aside0.mk (HB4.out.trans (hb5.mono (Nat.le_of_lt hlt)))
    clear hb5 HB4 K4 I4 q1
    have q2 : W5.cell? ⟨w.heap.size, 2, none⟩ = some (.slice A0_2 l0_2.length c0_2) := (blk_cell k5 2).trans rfl
    have K5 := Aside0.mk k5
    clear k5
    go_wp2_with fail
    refine (enc_clo k (l0_2.length : Int) b c nb W5 I5 hs5 HCc.out).mono ?_
    rintro e W6 ⟨rfl, I6, hb6⟩
    have hs6 : nb < W6.heap.size := Nat.lt_of_lt_of_le hs5 hb6.size
    have k6 := (hb6.block w.heap.size hlt).trans K5.out
    have HB6 := Aside0.mk (HB5.out.trans (hb6.mono (Nat.le_of_lt hlt)))
    clear hb6 HB5 K5 I5 q2
    have q2 : W6.cell? ⟨w.heap.size, 2, none⟩ = some (.slice A0_2 l0_2.length c0_2) := (blk_cell k6 2).trans rfl
    clear k6
    go_wp2_with fail
    go_loopw [6, 29] (fun v6 v29 wr => ∃ (j : Nat) (last : Int) (acc : ByteArray), j ≤ l0_2.length ∧ v6 = .int .i64 last ∧ v29 = .int .i64 j ∧ Aside0 (encG k (l0_2.drop j) last acc = some r1) ∧ Aside0 (IsB nb acc wr) ∧ Aside0 (Below w.heap.size w wr) ∧ nb < wr.heap.size)
      (fun _ v29 _ => l0_2.length - (intOf v29).toNat)
    case atStart => exact ⟨0, 0, c, Nat.zero_le _, rfl, rfl, by simpa using HS, I6, HB6, hs6⟩
    case round =>
      obtain ⟨j, last, acc, hj, rfl, rfl, HE, I7, HB7, hs7⟩ := hrel
      by_cases cj : j < l0_2.length
      · have tj : decide (j < l0_2.length) = true := decide_eq_true cj
        obtain ⟨ad0, rfl, q0⟩ := Kd.at_int (Kd.C_below HR.out HB7.out) (j : Int) (by omega) (by omega)
        simp only [Int.toNat_natCast] at q0
        have hE := HE.out
        clear HE
        rw [drop_rd' cj] at hE
        unfold encG at hE
        obtain ⟨p8, hp8, hE⟩ := Option.bind_eq_some_iff.1 hE
        have HE8 := Aside0.mk hE
        have HP8 := Aside0.mk hp8
        clear hE hp8
        go_wp2_with fail
        refine (enc_clo k _ acc p8 nb _ I7 hs7 HP8.out).mono ?_
        rintro e W8 ⟨rfl, I8, hb8⟩
        have hs8 : nb < W8.heap.size := Nat.lt_of_lt_of_le hs7 hb8.size
        have HB8 := Aside0.mk (HB7.out.trans (hb8.mono (Nat.le_of_lt hlt)))
        clear hb8 HB7 I7
        go_wp2
        go_roundw
        case rel => exact ⟨j + 1, _, p8, by omega, rfl, by go_num, HE8, I8, HB8, hs8⟩
        case measure => simp [intOf]; omega
      · have tj : decide (j < l0_2.length) = false := decide_eq_false cj
        have hE := HE.out
        clear HE
        rw [List.drop_eq_nil_of_le (by omega)] at hE
        cases hE
        have hI7 := I7.out
        go_wp2_with fail
        refine (builder_string nb nb r1.data.toList _ hI7 (Nat.le_of_lt hs7)).mono ?_
        rintro e W9 ⟨rfl, hb9⟩
        have HB9 := HB7.out.trans (hb9.mono (Nat.le_of_lt hlt))
        clear hb9 HB7
        go_wp2
        go_ret2
        exact ⟨rfl, HB9⟩
  · rw [if_neg c1] at h
    have c1b : (t != 0) = true := bne_iff_ne.mpr c1
    clear c1
    cases h
    go_wp2
    go_ret2
    exact ⟨rfl, HB2.out⟩
end Go.Proofs.Ythblifjeecdhcaa.Hand
end
section
namespace Go.Proofs.Ythblifjeecdhcaa.Hand
open Go.RowKit Go.Shelf Go.Proofs.YthblifjeecdhcaaW.PrintWords Go.Proofs.YthblifjeecdhcaaW.PrintMore Go.Proofs.Ythblifjeecdhcaa.A Go.Proofs.Ythblifjeecdhcaa.B
set_option linter.unusedVariables false
def numD (s : ByteArray) (f : Bool) : Option (Int × ByteArray × Bool) := (varint_Read.f s).bind fun p => if f = true then some (0, s, true) else if p.2.2 = 0 then (if 0 ≤ p.2.1 then (if p.2.1 ≤ (s.size : Int) then some (p.1, s.extract p.2.1.toNat s.size, false) else none) else none) else some (0, s, true)
def decG : Nat → Int → ByteArray → Bool → List Int → Option (Option (ByteArray × Bool × List Int))
  | 0, _, s, f, acc => some (some (s, f, acc))
  | n + 1, last, s, f, acc => (numD s f).bind fun p => if p.2.2 = true then some none else if wrap64 (last + p.1) ≥ 4294967296 then some none else if acc.length < 17592186044416 then decG n (wrap64 (last + p.1)) p.2.1 p.2.2 (acc ++ [wrap64 (last + p.1)]) else none
def kmv_Decode.f (k : Nat) (a0 : ByteArray) : Option (Int × Int × List Int × Int) := (numD a0 false).bind fun p => (numD p.2.1 p.2.2).bind fun q => (numD q.2.1 q.2.2).bind fun r => if r.1 > 1000 then some (0, 0, [], 12) else (decG r.1.toNat 0 r.2.1 r.2.2 []).bind fun o => match o with
  | none => some (0, 0, [], 12)
  | some (s, f, l) => if f = true then some (0, 0, [], 12) else if s = ⟨#[]⟩ then ((kmv_Check.f k p.1 q.1 l).bind fun t => if t = 0 then some (p.1, q.1, l, 0) else some (0, 0, [], 12)) else some (0, 0, [], 12)
theorem kmv_Decode.mono : ∀ a0 k, LeO (kmv_Decode.f k a0) (kmv_Decode.f (k + 1) a0) := by
  intro a0 k
  unfold kmv_Decode.f
  refine LeO.bind (LeO.refl _) (fun p => LeO.bind (LeO.refl _) (fun q => LeO.bind (LeO.refl _) (fun r => ?_)))
  split
  · exact LeO.refl _
  · refine LeO.bind (LeO.refl _) (fun o => ?_)
    split
    · exact LeO.refl _
    · split
      · exact LeO.refl _
      · split
        · exact LeO.bind (kmv_Check.mono _ _ _ _) (fun _ => LeO.refl _)
        · exact LeO.refl _
abbrev BX (w : World) (b : Nat) (t : TypeId) (v : Value) : Prop := w.heap[b]? = some (.cells #[v] t (0, 0))
/-- A world in which, of what lay in another, only two boxes have been written. -/
def KeepTwo (b1 b2 : Nat) (w w' : World) : Prop := ∀ k, k < w.heap.size → k ≠ b1 → k ≠ b2 → w'.heap[k]? = w.heap[k]?
set_option maxHeartbeats 2000000 in
theorem dec_clo (s : ByteArray) (f : Bool) (n : Int) (s' : ByteArray) (f' : Bool) (b1 b2 : Nat) (w : World) (hlt : b1 < b2) (H1 : Aside0 (BX w b1 9 (.string s))) (H2 : Aside0 (BX w b2 4 (.bool f))) (h : numD s f = some (n, s', f')) :
    Calls Try.prog 51 #[.pointer (some ⟨b1, 0, none⟩), .pointer (some ⟨b2, 0, none⟩)] w fun e w' => e = .returned (.int .i64 n) ∧ Aside0 (BX w' b1 9 (.string s')) ∧ Aside0 (BX w' b2 4 (.bool f')) ∧ Aside0 (Below b1 w w') ∧ Aside0 (KeepTwo b1 b2 w w') := by
  unfold numD at h
  obtain ⟨p, hp, h⟩ := Option.bind_eq_some_iff.1 h
  have HP := Aside0.mk hp
  clear hp
  have c1 : w.cell? ⟨b1, 0, none⟩ = some (.string s) := (blk_cell H1.out 0).trans rfl
  have l1 := blk_lt H1.out
  have l2 := blk_lt H2.out
  go_enter Try.func51, Try.ntmps51
  go_wp2_with fail
  refine (varint_Read.calls s p.1 p.2.1 p.2.2 _ HP.out).mono ?_
  rintro e W hr
  obtain ⟨rfl, hb⟩ := hr
  have G1 := Aside0.mk (blk_below H1.out hb)
  have G2 := Aside0.mk (blk_below H2.out hb)
  have HB := Aside0.mk (hb.mono (Nat.le_of_lt l1))
  have HK : Aside0 (KeepTwo b1 b2 w W) := ⟨fun k hk _ _ => hb.block k hk⟩
  have hsz := hb.size
  clear hb c1
  have c1 : W.cell? ⟨b1, 0, none⟩ = some (.string s) := (blk_cell G1.out 0).trans rfl
  have c2 : W.cell? ⟨b2, 0, none⟩ = some (.bool f) := (blk_cell G2.out 0).trans rfl
  have z1 : W.frozen? ⟨b1, 0, none⟩ = false := blk_frozen G1.out 0
  have z2 : W.frozen? ⟨b2, 0, none⟩ = false := blk_frozen G2.out 0
  have keep : ∀ (b : Nat) (v : Value), b = b1 ∨ b = b2 → KeepTwo b1 b2 w (W.setCell ⟨b, 0, none⟩ v) := fun b v hb k hk n1 n2 => (Below.heap_setCell W ⟨b, 0, none⟩ v k (by rcases hb with rfl | rfl <;> assumption)).trans (HK.out k hk n1 n2)
  have KP := Aside0.mk keep
  clear keep
  by_cases hf : f = true
  · subst hf
    rw [if_pos rfl] at h
    cases h
    go_wp2
    go_ret
    exact ⟨rfl, ⟨blk_far G1.out (Nat.ne_of_lt hlt) _⟩, ⟨blk_put G2.out 0 _ rfl⟩, ⟨HB.out.setCell (Nat.le_of_lt hlt) _⟩, ⟨KP.out b2 _ (.inr rfl)⟩⟩
  · obtain rfl : f = false := by simpa using hf
    rw [if_neg hf] at h
    by_cases he : p.2.2 = 0
    · rw [if_pos he] at h
      split at h
      case isFalse => cases h
      rename_i h0
      split at h
      case isFalse => cases h
      rename_i h3
      cases h
      have e1 : (p.2.2 != 0) = false := bne_eq_false_iff_eq.mpr he
      go_wp2
      go_ret
      exact ⟨rfl, ⟨blk_put G1.out 0 _ rfl⟩, ⟨blk_far G2.out (Nat.ne_of_gt hlt) _⟩, ⟨HB.out.setCell (Nat.le_refl _) _⟩, ⟨KP.out b1 _ (.inl rfl)⟩⟩
    · rw [if_neg he] at h
      cases h
      have e1 : (p.2.2 != 0) = true := bne_iff_ne.mpr he
      go_wp2
      go_ret
      exact ⟨rfl, ⟨blk_far G1.out (Nat.ne_of_lt hlt) _⟩, ⟨blk_put G2.out 0 _ rfl⟩, ⟨HB.out.setCell (Nat.le_of_lt hlt) _⟩, ⟨KP.out b2 _ (.inr rfl)⟩⟩
theorem infoD : (Try.prog.info? 3).map (fun i => (i.zero, i.size, i.bytes)) = some (some (.int .i64 0), 1, 8) := by kernel_rfl
/-- What lies in memory beside the call's own row: the result's box, the two boxes of the closure, the sketch's box. -/
structure ST (w W : World) (K C : Int) (hv : Value) (acc : List Int) (s : ByteArray) (f : Bool) : Prop where
  below : Below w.heap.size w W
  x0 : W.heap[w.heap.size]? = some (.cells #[.int .i64 0, .int .i64 0, .slice none 0 0] 24 (0, 0))
  x1 : BX W (w.heap.size + 1) 9 (.string s)
  x2 : BX W (w.heap.size + 1 + 1) 4 (.bool f)
  x3 : W.heap[w.heap.size + 1 + 1 + 1]? = some (.cells #[.int .i64 K, .int .i64 C, hv] 24 (0, 0))
  row : Kd.R (Kd.int .i64) 3 W w.heap.size (fun k => w.heap.size + 1 + 1 + 1 < k) hv acc
theorem ST.set0 {w W : World} {K C : Int} {hv : Value} {acc : List Int} {s : ByteArray} {f : Bool} (h : ST w W K C hv acc s f) (K' : Int) : ST w (W.setCell ⟨w.heap.size + 1 + 1 + 1, 0, none⟩ (.int .i64 K')) K' C hv acc s f :=
  ⟨h.below.setCell (by dsimp only; omega) _, blk_far h.x0 (by dsimp only; omega) _, blk_far h.x1 (by dsimp only; omega) _, blk_far h.x2 (by dsimp only; omega) _, blk_put h.x3 0 _ rfl, Kd.R_far h.row (fun k hk => by dsimp only; omega) _⟩
theorem ST.set1 {w W : World} {K C : Int} {hv : Value} {acc : List Int} {s : ByteArray} {f : Bool} (h : ST w W K C hv acc s f) (C' : Int) : ST w (W.setCell ⟨w.heap.size + 1 + 1 + 1, 1, none⟩ (.int .i64 C')) K C' hv acc s f :=
  ⟨h.below.setCell (by dsimp only; omega) _, blk_far h.x0 (by dsimp only; omega) _, blk_far h.x1 (by dsimp only; omega) _, blk_far h.x2 (by dsimp only; omega) _, blk_put h.x3 1 _ rfl, Kd.R_far h.row (fun k hk => by dsimp only; omega) _⟩
theorem ST.set2 {w W w1 : World} {K C : Int} {hv v1 : Value} {acc acc' : List Int} {s : ByteArray} {f : Bool} (h : ST w W K C hv acc s f) (hr : Kd.R (Kd.int .i64) 3 w1 w.heap.size (fun k => w.heap.size + 1 + 1 + 1 < k) v1 acc') (hb : Below w.heap.size w w1) (hg : W.grownBy w1 hv.ownBlock) :
    ST w (w1.setCell ⟨w.heap.size + 1 + 1 + 1, 2, none⟩ v1) K C v1 acc' s f := by
  have ne : ∀ g, g ≤ w.heap.size + 1 + 1 + 1 → some g ≠ hv.ownBlock := fun g hg e => by have := h.row.1 g e.symm; omega
  exact ⟨hb.setCell (by dsimp only; omega) _, blk_far (blk_grown h.x0 hg (ne _ (by omega))) (by dsimp only; omega) _, blk_far (blk_grown h.x1 hg (ne _ (by omega))) (by dsimp only; omega) _, blk_far (blk_grown h.x2 hg (ne _ (by omega))) (by dsimp only; omega) _, blk_put (blk_grown h.x3 hg (ne _ (by omega))) 2 _ rfl, Kd.R_far hr (fun k hk => by dsimp only; omega) _⟩
theorem dec_st (w W : World) (K C : Int) (hv : Value) (acc : List Int) (s : ByteArray) (f : Bool) (n : Int) (s' : ByteArray) (f' : Bool) (HS : Aside0 (ST w W K C hv acc s f)) (h : numD s f = some (n, s', f')) :
    Calls Try.prog 51 #[.pointer (some ⟨w.heap.size + 1, 0, none⟩), .pointer (some ⟨w.heap.size + 1 + 1, 0, none⟩)] W fun e W' => e = .returned (.int .i64 n) ∧ Aside0 (ST w W' K C hv acc s' f') := by
  refine (dec_clo s f n s' f' _ _ W (by omega) ⟨HS.out.x1⟩ ⟨HS.out.x2⟩ h).mono ?_
  rintro e W' ⟨rfl, h1, h2, h3, h4⟩
  have l3 := blk_lt HS.out.x3
  exact ⟨rfl, ⟨HS.out.below.trans (h3.out.mono (by omega)), (h4.out _ (by omega) (by omega) (by omega)).trans HS.out.x0, h1.out, h2.out, (h4.out _ l3 (by omega) (by omega)).trans HS.out.x3, Kd.R_step HS.out.row (fun k hk hl => h4.out k hl (by omega) (by omega))⟩⟩
theorem empty_yes {s : ByteArray} (h : s = ⟨#[]⟩) : s.toList.isEmpty = true := by subst h; rw [Go.ByteArray.toList_eq]; rfl
theorem empty_no {s : ByteArray} (h : ¬ s = ⟨#[]⟩) : s.toList.isEmpty = false := by
  rw [Go.ByteArray.toList_eq, Bool.eq_false_iff]
  intro e
  refine h ?_
  obtain ⟨⟨l⟩⟩ := s
  have : l = [] := by simpa using e
  subst this; rfl
set_option maxRecDepth 100000 in
set_option maxHeartbeats 8000000 in
theorem kmv_Decode.calls (k : Nat) (a0 : ByteArray) (r1 r2 : Int) (r3 : List Int) (r4 : Int) (w : World) (h : kmv_Decode.f k a0 = some (r1, r2, r3, r4)) :
    Calls Try.prog 32 #[.string a0] w fun e w' => ∃ v2_ : Value, e = .returned (.tuple #[.agg #[.int .i64 r1, .int .i64 r2, v2_], .int .i64 r4]) ∧ Kd.R (Kd.int .i64) 3 w' w.heap.size (fun _ => True) v2_ r3 ∧ Below w.heap.size w w' := by
  unfold kmv_Decode.f at h
  obtain ⟨⟨p1, p2, p3⟩, hp, h1⟩ := Option.bind_eq_some_iff.1 h
  clear h
  dsimp only at h1
  obtain ⟨⟨q1, q2, q3⟩, hq, h2⟩ := Option.bind_eq_some_iff.1 h1
  clear h1
  dsimp only at h2
  obtain ⟨⟨n, s3, f3⟩, hn, h⟩ := Option.bind_eq_some_iff.1 h2
  clear h2
  dsimp only at h
  have HP := Aside0.mk hp
  have HQ := Aside0.mk hq
  have HN := Aside0.mk hn
  clear hp hq hn
  obtain ⟨W0, hW0⟩ : ∃ W0, W0 = ((((w.alloc (.cells #[.int .i64 0, .int .i64 0, .slice none 0 0] 24)).alloc (.cells #[.string a0] 9)).alloc (.cells #[.bool false] 4)).alloc (.cells #[.int .i64 0, .int .i64 0, .slice none 0 0] 24)) := ⟨_, rfl⟩
  have S0 : Aside0 (ST w W0 0 0 (.slice none 0 0) [] a0 false) := ⟨by
    subst hW0
    have e1 := World.alloc_heap_new w (.cells #[.int .i64 0, .int .i64 0, .slice none 0 0] 24)
    have e2 := World.alloc_heap_new (w.alloc (.cells #[.int .i64 0, .int .i64 0, .slice none 0 0] 24)) (.cells #[.string a0] 9)
    have e3 := World.alloc_heap_new ((w.alloc (.cells #[.int .i64 0, .int .i64 0, .slice none 0 0] 24)).alloc (.cells #[.string a0] 9)) (.cells #[.bool false] 4)
    have e4 := World.alloc_heap_new (((w.alloc (.cells #[.int .i64 0, .int .i64 0, .slice none 0 0] 24)).alloc (.cells #[.string a0] 9)).alloc (.cells #[.bool false] 4)) (.cells #[.int .i64 0, .int .i64 0, .slice none 0 0] 24)
    simp only [World.size_alloc] at e2 e3 e4
    exact ⟨((((Below.refl _ w).alloc (Nat.le_refl _) _).alloc (by simp) _).alloc (by simp; omega) _).alloc (by simp; omega) _, blk_alloc (blk_alloc (blk_alloc e1 _) _) _, blk_alloc (blk_alloc e2 _) _, blk_alloc e3 _, e4, Kd.R_nil _ _ _ _ _⟩⟩
  go_enter Try.func32, Try.ntmps32
  go_wp2_with fail
  rw [← hW0]
  refine (dec_st w W0 0 0 _ [] a0 false p1 p2 p3 S0 HP.out).mono ?_
  rintro e W1 ⟨rfl, S1⟩
  clear S0 hW0 W0 HP
  have c3 : W1.cell? ⟨w.heap.size + 1 + 1 + 1, 0, none⟩ = some (.int .i64 0) := (blk_cell S1.out.x3 0).trans rfl
  have z3 : W1.frozen? ⟨w.heap.size + 1 + 1 + 1, 0, none⟩ = false := blk_frozen S1.out.x3 0
  go_wp2_with fail
  refine (dec_st w _ p1 0 _ [] p2 p3 q1 q2 q3 ⟨S1.out.set0 p1⟩ HQ.out).mono ?_
  rintro e W2 ⟨rfl, S2⟩
  clear S1 c3 z3 HQ W1
  have c3 : W2.cell? ⟨w.heap.size + 1 + 1 + 1, 1, none⟩ = some (.int .i64 0) := (blk_cell S2.out.x3 1).trans rfl
  have z3 : W2.frozen? ⟨w.heap.size + 1 + 1 + 1, 1, none⟩ = false := blk_frozen S2.out.x3 1
  go_wp2_with fail
  refine (dec_st w _ p1 q1 _ [] q2 q3 n s3 f3 ⟨S2.out.set1 q1⟩ HN.out).mono ?_
  rintro e W3 ⟨rfl, S3⟩
  clear S2 c3 z3 HN W2
  by_cases hn : n > 1000
  · rw [if_pos hn] at h
    cases h
    have t1 : decide (1000 < n) = true := decide_eq_true hn
    have c0 : W3.cell? ⟨w.heap.size, 0, none⟩ = some (.int .i64 0) := (blk_cell S3.out.x0 0).trans rfl
    have c1 : W3.cell? ⟨w.heap.size, 1, none⟩ = some (.int .i64 0) := (blk_cell S3.out.x0 1).trans rfl
    have c2 : W3.cell? ⟨w.heap.size, 2, none⟩ = some (.slice none 0 0) := (blk_cell S3.out.x0 2).trans rfl
    have z0 := blk_frozen S3.out.x0 0
    have z1 := blk_frozen S3.out.x0 1
    have z2 := blk_frozen S3.out.x0 2
    go_wp2
    refine bodyPost_ret (results_ct rfl _ _ w.heap.size 24 #[.int .i64 0, .int .i64 0, .slice none 0 0] (0, 0) _ rfl (blk_put (blk_put (blk_put S3.out.x0 0 _ rfl) 1 _ rfl) 2 _ rfl) Try.underlying24 rfl (by kernel_rfl)) rfl ?_
    exact ⟨_, rfl, Kd.R_nil _ _ _ _ _, ((S3.out.below.setCell (Nat.le_refl _) _).setCell (Nat.le_refl _) _).setCell (Nat.le_refl _) _⟩
  · rw [if_neg hn] at h
    have t1 : decide (1000 < n) = false := decide_eq_false hn
    obtain ⟨o, ho, h3⟩ := Option.bind_eq_some_iff.1 h
    clear h
    have HO := Aside0.mk ho
    have H3 := Aside0.mk h3
    clear ho h3
    go_wp2_with fail
    go_loopw [9, 24] (fun v9 v24 wr => ∃ (j : Nat) (last : Int) (hv : Value) (acc : List Int) (s : ByteArray) (f : Bool), j ≤ n.toNat ∧ acc.length = j ∧ v9 = .int .i64 last ∧ v24 = .int .i64 j ∧ Aside0 (decG (n.toNat - j) last s f acc = some o) ∧ Aside0 (ST w wr p1 q1 hv acc s f))
      (fun _ v24 _ => n.toNat - (intOf v24).toNat)
    case atStart => exact ⟨0, 0, _, [], s3, f3, Nat.zero_le _, rfl, rfl, rfl, HO, S3⟩
    case round =>
      obtain ⟨j, last, hv, acc, s, f, hj, hja, rfl, rfl, HE, S4⟩ := hrel
      have hE := HE.out
      clear HE HO S3
      by_cases cj : (j : Int) < n
      · have tj : decide ((j : Int) < n) = true := decide_eq_true cj
        obtain ⟨m, hm⟩ : ∃ m, n.toNat - j = m + 1 := ⟨n.toNat - j - 1, by omega⟩
        rw [hm, decG] at hE
        obtain ⟨⟨u1, u2, u3⟩, hu, hE2⟩ := Option.bind_eq_some_iff.1 hE
        clear hE
        dsimp only at hE2
        have HU := Aside0.mk hu
        clear hu
        go_wp2_with fail
        refine (dec_st w _ p1 q1 hv acc s f u1 u2 u3 S4 HU.out).mono ?_
        rintro e W5 ⟨rfl, S5⟩
        clear S4 HU
        have d0 : W5.cell? ⟨w.heap.size, 0, none⟩ = some (.int .i64 0) := (blk_cell S5.out.x0 0).trans rfl
        have d1 : W5.cell? ⟨w.heap.size, 1, none⟩ = some (.int .i64 0) := (blk_cell S5.out.x0 1).trans rfl
        have d2 : W5.cell? ⟨w.heap.size, 2, none⟩ = some (.slice none 0 0) := (blk_cell S5.out.x0 2).trans rfl
        have y0 := blk_frozen S5.out.x0 0
        have y1 := blk_frozen S5.out.x0 1
        have y2 := blk_frozen S5.out.x0 2
        have d3 : W5.cell? ⟨w.heap.size + 1 + 1, 0, none⟩ = some (.bool u3) := (blk_cell S5.out.x2 0).trans rfl
        by_cases cu : u3 = true
        · subst cu
          rw [if_pos rfl] at hE2
          cases hE2
          cases H3.out
          go_wp2
          refine bodyPost_ret (results_ct rfl _ _ w.heap.size 24 #[.int .i64 0, .int .i64 0, .slice none 0 0] (0, 0) _ rfl (blk_put (blk_put (blk_put S5.out.x0 0 _ rfl) 1 _ rfl) 2 _ rfl) Try.underlying24 rfl (by kernel_rfl)) rfl ?_
          exact ⟨_, rfl, Kd.R_nil _ _ _ _ _, ((S5.out.below.setCell (Nat.le_refl _) _).setCell (Nat.le_refl _) _).setCell (Nat.le_refl _) _⟩
        · obtain rfl : u3 = false := by simpa using cu
          rw [if_neg cu] at hE2
          by_cases cl : wrap64 (last + u1) ≥ 4294967296
          · rw [if_pos cl] at hE2
            cases hE2
            cases H3.out
            have tl : decide (4294967296 ≤ wrap64 (last + u1)) = true := decide_eq_true cl
            go_wp2
            refine bodyPost_ret (results_ct rfl _ _ w.heap.size 24 #[.int .i64 0, .int .i64 0, .slice none 0 0] (0, 0) _ rfl (blk_put (blk_put (blk_put S5.out.x0 0 _ rfl) 1 _ rfl) 2 _ rfl) Try.underlying24 rfl (by kernel_rfl)) rfl ?_
            exact ⟨_, rfl, Kd.R_nil _ _ _ _ _, ((S5.out.below.setCell (Nat.le_refl _) _).setCell (Nat.le_refl _) _).setCell (Nat.le_refl _) _⟩
          · rw [if_neg cl] at hE2
            have tl : decide (4294967296 ≤ wrap64 (last + u1)) = false := decide_eq_false cl
            split at hE2
            case isFalse => cases hE2
            rename_i hlen
            clear d0 d1 d2 y0 y1 y2
            have HE2 := Aside0.mk hE2
            clear hE2
            have d4 : W5.cell? ⟨w.heap.size + 1 + 1 + 1, 2, none⟩ = some hv := (blk_cell S5.out.x3 2).trans rfl
            have hne : ∀ g, g ≤ w.heap.size + 1 + 1 + 1 → some g ≠ hv.ownBlock := fun g hg e => by have := S5.out.row.1 g e.symm; omega
            have l5 := blk_lt S5.out.x3
            go_wp2_with ((with_reducible refine gate_builtin (b := .append) (xs := #[.tmp 37, .tmp 39]) rfl ?_); at_builtin; refine Kd.R_append (Kd.int .i64) (w0 := w) w.heap.size rfl (.tmp 37) (.tmp 39) 22 3 (.int .i64 0) 8 rfl Try.underlying22 infoD rfl (by decide) (by omega) hv acc (wrap64 (last + u1)) [.int .i64 (wrap64 (last + u1))] (fun k => w.heap.size + 1 + 1 + 1 < k) (fun _ => False) rfl rfl ?aP (fun _ hk => hk.elim) ?aF ?aO ?aB ?aS ?aL ?_; (case aP => exact rfl); (case aB => exact S5.out.below); (case aF => exact (fun k hk => by omega)); (case aO => exact S5.out.row); (case aS => exact S5.out.below.size); (case aL => omega); intro v6 W6 hr6 hb6 hg6 hat6; obtain ⟨A6, m6, hv6, _, _⟩ := Kd.R_reads hr6; rw [show (acc ++ [wrap64 (last + u1)]).length = j + 1 by simp [hja]] at hv6; subst hv6; have S6 := Aside0.mk (S5.out.set2 hr6 hb6 hg6); have d6 : W6.cell? ⟨w.heap.size + 1 + 1 + 1, 2, none⟩ = some hv := (blk_cell (blk_grown S5.out.x3 hg6 (hne _ (Nat.le_refl _))) 2).trans rfl; have y6 : W6.frozen? ⟨w.heap.size + 1 + 1 + 1, 2, none⟩ = false := blk_frozen (blk_grown S5.out.x3 hg6 (hne _ (Nat.le_refl _))) 2; clear hr6 hb6 hg6 hat6 d4 d3)
            go_roundw
            case rel => exact ⟨j + 1, _, _, acc ++ [wrap64 (last + u1)], u2, false, by omega, by rw [List.length_append]; simp; omega, rfl, by go_num, (by rw [show n.toNat - (j + 1) = m by omega]; exact HE2), S6⟩
            case measure => simp [intOf]; omega
      · have tj : decide ((j : Int) < n) = false := decide_eq_false cj
        rw [show n.toNat - j = 0 by omega, decG] at hE
        cases hE
        have h3 := H3.out
        clear H3
        dsimp only at h3
        have d0 : wr.cell? ⟨w.heap.size, 0, none⟩ = some (.int .i64 0) := (blk_cell S4.out.x0 0).trans rfl
        have d1 : wr.cell? ⟨w.heap.size, 1, none⟩ = some (.int .i64 0) := (blk_cell S4.out.x0 1).trans rfl
        have d2 : wr.cell? ⟨w.heap.size, 2, none⟩ = some (.slice none 0 0) := (blk_cell S4.out.x0 2).trans rfl
        have y0 := blk_frozen S4.out.x0 0
        have y1 := blk_frozen S4.out.x0 1
        have y2 := blk_frozen S4.out.x0 2
        have d3 : wr.cell? ⟨w.heap.size + 1 + 1, 0, none⟩ = some (.bool f) := (blk_cell S4.out.x2 0).trans rfl
        by_cases cf : f = true
        · subst cf
          rw [if_pos rfl] at h3
          cases h3
          go_wp2
          refine bodyPost_ret (results_ct rfl _ _ w.heap.size 24 #[.int .i64 0, .int .i64 0, .slice none 0 0] (0, 0) _ rfl (blk_put (blk_put (blk_put S4.out.x0 0 _ rfl) 1 _ rfl) 2 _ rfl) Try.underlying24 rfl (by kernel_rfl)) rfl ?_
          exact ⟨_, rfl, Kd.R_nil _ _ _ _ _, ((S4.out.below.setCell (Nat.le_refl _) _).setCell (Nat.le_refl _) _).setCell (Nat.le_refl _) _⟩
        · obtain rfl : f = false := by simpa using cf
          rw [if_neg cf] at h3
          have d4 : wr.cell? ⟨w.heap.size + 1, 0, none⟩ = some (.string s) := (blk_cell S4.out.x1 0).trans rfl
          by_cases cs : s = ⟨#[]⟩
          · rw [if_pos cs] at h3
            have ts : s.toList.isEmpty = true := empty_yes cs
            clear cs
            obtain ⟨t, ht, h4⟩ := Option.bind_eq_some_iff.1 h3
            clear h3
            have HT := Aside0.mk ht
            clear ht
            obtain ⟨A4, m4, hve, hmc, hcl⟩ := Kd.R_reads S4.out.row
            have HC := Aside0.mk hcl
            clear hcl
            subst hve
            have e0 : wr.cell? ⟨w.heap.size + 1 + 1 + 1, 0, none⟩ = some (.int .i64 p1) := (blk_cell S4.out.x3 0).trans rfl
            have e1 : wr.cell? ⟨w.heap.size + 1 + 1 + 1, 1, none⟩ = some (.int .i64 q1) := (blk_cell S4.out.x3 1).trans rfl
            have e2 : wr.cell? ⟨w.heap.size + 1 + 1 + 1, 2, none⟩ = some (.slice A4 acc.length m4) := (blk_cell S4.out.x3 2).trans rfl
            go_wp2_with fail
            have hcall := kmv_Check.calls k p1 q1 A4 m4 acc t wr HC.out hmc HT.out
            rw [hja] at hcall
            refine hcall.mono ?_
            rintro e W8 hr8
            obtain ⟨rfl, hb8⟩ := hr8
            clear hcall d0 d1 d2 d3 d4 e0 e1 e2 y0 y1 y2
            have x8 := blk_below S4.out.x0 hb8
            have x9 := blk_below S4.out.x3 hb8
            have d0 : W8.cell? ⟨w.heap.size, 0, none⟩ = some (.int .i64 0) := (blk_cell x8 0).trans rfl
            have d1 : W8.cell? ⟨w.heap.size, 1, none⟩ = some (.int .i64 0) := (blk_cell x8 1).trans rfl
            have d2 : W8.cell? ⟨w.heap.size, 2, none⟩ = some (.slice none 0 0) := (blk_cell x8 2).trans rfl
            have y0 := blk_frozen x8 0
            have y1 := blk_frozen x8 1
            have y2 := blk_frozen x8 2
            have e0 : W8.cell? ⟨w.heap.size + 1 + 1 + 1, 0, none⟩ = some (.int .i64 p1) := (blk_cell x9 0).trans rfl
            have e1 : W8.cell? ⟨w.heap.size + 1 + 1 + 1, 1, none⟩ = some (.int .i64 q1) := (blk_cell x9 1).trans rfl
            have e2 : W8.cell? ⟨w.heap.size + 1 + 1 + 1, 2, none⟩ = some (.slice A4 acc.length m4) := (blk_cell x9 2).trans rfl
            clear x9
            have X8 := Aside0.mk x8
            clear x8
            by_cases ct : t = 0
            · rw [if_pos ct] at h4
              cases h4
              have tt : (t != 0) = false := bne_eq_false_iff_eq.mpr ct
              clear ct
              go_wp2
              refine bodyPost_ret (results_ct rfl _ _ w.heap.size 24 #[.int .i64 r1, .int .i64 r2, .slice A4 r3.length m4] (0, 0) _ rfl (blk_put (blk_put (blk_put (blk_below S4.out.x0 hb8) 0 _ rfl) 1 _ rfl) 2 _ (by rw [hja]; rfl)) Try.underlying24 rfl (by kernel_rfl)) rfl ?_
              refine ⟨_, rfl, ?_, (((below_step S4.out.below hb8).setCell (Nat.le_refl _) _).setCell (Nat.le_refl _) _).setCell (Nat.le_refl _) _⟩
              have hR := Kd.R_below S4.out.row hb8
              exact Kd.R_mono (Kd.R_far (Kd.R_far (Kd.R_far hR (fun k hk => by dsimp only; omega) _) (fun k hk => by dsimp only; omega) _) (fun k hk => by dsimp only; omega) _) (fun _ _ => trivial)
            · rw [if_neg ct] at h4
              cases h4
              have tt : (t != 0) = true := bne_iff_ne.mpr ct
              clear ct
              go_wp2
              refine bodyPost_ret (results_ct rfl _ _ w.heap.size 24 #[.int .i64 0, .int .i64 0, .slice none 0 0] (0, 0) _ rfl (blk_put (blk_put (blk_put (blk_below S4.out.x0 hb8) 0 _ rfl) 1 _ rfl) 2 _ rfl) Try.underlying24 rfl (by kernel_rfl)) rfl ?_
              exact ⟨_, rfl, Kd.R_nil _ _ _ _ _, (((below_step S4.out.below hb8).setCell (Nat.le_refl _) _).setCell (Nat.le_refl _) _).setCell (Nat.le_refl _) _⟩
          · rw [if_neg cs] at h3
            have ts : s.toList.isEmpty = false := empty_no cs
            clear cs
            cases h3
            go_wp2
            refine bodyPost_ret (results_ct rfl _ _ w.heap.size 24 #[.int .i64 0, .int .i64 0, .slice none 0 0] (0, 0) _ rfl (blk_put (blk_put (blk_put S4.out.x0 0 _ rfl) 1 _ rfl) 2 _ rfl) Try.underlying24 rfl (by kernel_rfl)) rfl ?_
            exact ⟨_, rfl, Kd.R_nil _ _ _ _ _, ((S4.out.below.setCell (Nat.le_refl _) _).setCell (Nat.le_refl _) _).setCell (Nat.le_refl _) _⟩
end Go.Proofs.Ythblifjeecdhcaa.Hand
end
