/- The contract of postings.Encode: what the Go code returns for any list. No further condition. -/
import Derived.Test.YtdmdhpnlalekfaaHBuild
import Derived.Test.YtdmdhpnlalekfaaAx1
import Derived.RangeFuncBox
namespace Go.Proofs.Ytdmdhpnlalekfaa.Hand
open Go.RowKit Go.Shelf Go.Proofs.YtdmdhpnlalekfaaW.PrintWords Go.Proofs.YtdmdhpnlalekfaaW.PrintMore Go.Proofs.Ytdmdhpnlalekfaa.A
set_option linter.unusedVariables false
theorem isBuilder_below {T e : TypeId} {B b : Nat} {bs : List Value} {W W' : World} (h : Lib.IsBuilder T e B b bs W) (hb : Below W.heap.size W W') : Lib.IsBuilder T e B b bs W' := by
  have one : ∀ p, Lib.BuilderAt T e B b p bs W → Lib.BuilderAt T e B b p bs W' := fun p ⟨h1, v, h2, h3, h4⟩ =>
    ⟨h1, v, (hb.block b (Array.getElem?_eq_some_iff.1 h2).1).trans h2, own_move h3 (fun k hk => hb.block k (own_lt h3 k hk)), h4⟩
  rcases h with h | h
  · exact .inl (one _ h)
  · exact .inr (one _ h)
theorem isBuilder_new (W : World) (T e : TypeId) (b : Nat) (hb : b = W.heap.size) : Lib.IsBuilder T e b b [] (W.alloc (.cells #[.pointer none, .slice none 0 0] T)) := by
  subst hb
  exact .inl ⟨Nat.le_refl _, .slice none 0 0, World.alloc_heap_new W _, World.ownsRow_nil _ _ _ _, by simp [Value.ownBlock]⟩
theorem strCells_append (a b : ByteArray) : Lib.strCells (a ++ b) = Lib.strCells a ++ Lib.strCells b := by simp [Lib.strCells, ByteArray.data_append]

def encL (k : Nat) : List Int → Int → ByteArray → Option ByteArray
  | [], _, acc => some acc
  | x :: r, before, acc => (varint_Append.f k ⟨#[]⟩ (wrap64 (wrap64 (x - before) - 1))).bind fun p => if acc.size + p.1.size ≤ 140737488355328 then encL k r x (acc ++ p.1) else none
def postings_Encode.f (k : Nat) (l0 : List Int) : Option (ByteArray × Int) := (postings_valid.f k [l0]).bind fun t => if t = true then ((varint_Append.f k ⟨#[]⟩ (l0.length : Int)).bind fun p => if p.1.size ≤ 140737488355328 then ((encL k l0 (-1) p.1).bind fun s => some (s, 0)) else none) else some (⟨#[]⟩, 1)
theorem encL_mono : ∀ (l : List Int) (b : Int) (acc : ByteArray) (k : Nat), LeO (encL k l b acc) (encL (k + 1) l b acc)
  | [], _, _, _ => LeO.refl _
  | x :: r, b, acc, k => by
    unfold encL
    refine LeO.bind (varint_Append.mono _ _ _) (fun p => ?_)
    split
    · exact encL_mono r x _ k
    · exact LeO.none _
theorem postings_Encode.mono : ∀ a0 k, LeO (postings_Encode.f k a0) (postings_Encode.f (k + 1) a0) := by
  intro a0 k
  unfold postings_Encode.f
  refine LeO.bind (postings_valid.mono _ _) (fun t => ?_)
  split
  · refine LeO.bind (varint_Append.mono _ _ _) (fun p => ?_)
    split
    · exact LeO.bind (encL_mono _ _ _ _) (fun _ => LeO.refl _)
    · exact LeO.none _
  · exact LeO.refl _

theorem drop_rd' {l : List Int} {i : Nat} (h : i < l.length) : l.drop i = rd l (i : Int) :: l.drop (i + 1) := by
  rw [List.drop_eq_getElem_cons h]
  congr 1
  simp [rd, List.getD, List.getElem?_eq_getElem h]
theorem C_one {W : World} {A0 : Option Addr} {c0 : Nat} {l0 : List Int} (hr0 : Kd.C (Kd.int .i64) W A0 l0.length l0) (hc0 : l0.length ≤ c0) {g : Nat} (hg : W.heap[g]? = some (.cells #[.slice A0 l0.length c0] 23 (0, 0))) : Kd.C (Kd.slice 3 (Kd.int .i64)) W (some ⟨g, 0, none⟩) 1 [l0] :=
  ⟨rfl, by omega, fun _ => ⟨_, rfl, fun j p hj => by
    match j, hj with
    | 0, hj =>
      simp at hj
      subst hj
      refine ⟨[.slice A0 l0.length c0], rfl, ⟨A0, c0, rfl, hc0, hr0⟩, fun i u hu => ?_⟩
      match i, hu with
      | 0, hu =>
        simp at hu
        subst hu
        simp [World.cell?, Addr.add, hg]
      | i + 1, hu => simp at hu
    | j + 1, hj => simp at hj⟩⟩

set_option maxRecDepth 100000 in
set_option maxHeartbeats 4000000 in
theorem postings_Encode.calls (k : Nat) (A0 : Option Addr) (c0 : Nat) (l0 : List Int) (r1 : ByteArray) (r2 : Int) (w : World) (hr0 : Kd.C (Kd.int .i64) w A0 l0.length l0) (hc0 : l0.length ≤ c0) (h : postings_Encode.f k l0 = some (r1, r2)) :
    Calls Try.prog 27 #[.slice A0 l0.length c0] w fun e w' => e = .returned (.tuple #[.string r1, .int .i64 r2]) ∧ Below w.heap.size w w' := by
  unfold postings_Encode.f at h
  obtain ⟨t, ht, h⟩ := Option.bind_eq_some_iff.1 h
  have hm0 := hr0.2.1
  have hB0 : Below w.heap.size w (w.alloc (.cells #[.slice A0 l0.length c0] 23)) := (Below.refl _ w).alloc (Nat.le_refl _) _
  have hC := C_one (Kd.C_below hr0 hB0) hc0 (World.alloc_heap_new w (.cells #[.slice A0 l0.length c0] 23))
  have HT := Aside0.mk ht
  clear ht
  go_enter Try.func27, Try.ntmps27
  by_cases hv : t = true
  · subst hv
    rw [if_pos rfl] at h
    obtain ⟨p, hp, h⟩ := Option.bind_eq_some_iff.1 h
    split at h
    case isFalse => cases h
    rename_i hps
    obtain ⟨s, hs, h⟩ := Option.bind_eq_some_iff.1 h
    cases h
    have HP := Aside0.mk hp
    have HS := Aside0.mk hs
    clear hp hs
    go_wp2_with (go_at_call 40; refine (postings_valid.calls k (some ⟨w.heap.size, 0, none⟩) 1 [l0] true _ hC (Nat.le_refl _) HT.out).mono ?_; rintro e w' ⟨rfl, ⟨nd, rfl⟩⟩)
    have hI0 := isBuilder_new ((w.alloc (.cells #[.slice A0 l0.length c0] 23)).drewN nd) 58 5 (w.heap.size + 1) (by simp [World.drewN])
    have hB2 : Below w.heap.size w (((w.alloc (.cells #[.slice A0 l0.length c0] 23)).drewN nd).alloc (.cells #[.pointer none, .slice none 0 0] 58)) := (pw_below_drewN hB0 nd).alloc (by simp [World.drewN]) _
    have hsz : w.heap.size + 1 < (((w.alloc (.cells #[.slice A0 l0.length c0] 23)).drewN nd).alloc (.cells #[.pointer none, .slice none 0 0] 58)).heap.size := by simp [World.drewN]
    generalize (((w.alloc (.cells #[.slice A0 l0.length c0] 23)).drewN nd).alloc (.cells #[.pointer none, .slice none 0 0] 58)) = W2 at *
    refine (varint_Append.calls k ⟨#[]⟩ (l0.length : Int) p.1 p.2 _ HP.out).mono ?_
    rintro e W3 ⟨rfl, hb3⟩
    have hI3 := isBuilder_below hI0 hb3
    have hB3 := hB2.trans (hb3.mono hB2.size)
    have hs3 := hb3.size
    go_wp2_with (go_at_call 48; refine (builder_write (w.heap.size + 1) (w.heap.size + 1) [] p.1 W3 hI3 (by simpa using hps) (by omega)).mono ?_; rintro e W4 ⟨rfl, hA4, hb4⟩)
    have hI4 : Lib.IsBuilder 58 5 (w.heap.size + 1) (w.heap.size + 1) (Lib.strCells p.1) W4 := by rw [List.nil_append] at hA4; exact .inr hA4
    have hB4 := hB3.trans (hb4.mono (by omega))
    have hs4 := hb4.size
    go_loopw [7, 26] (fun v7 v26 wr => ∃ (j : Nat) (before : Int) (acc : ByteArray), j ≤ l0.length ∧ v7 = .int .i64 before ∧ v26 = .int .i64 j ∧ Aside0 (encL k (l0.drop j) before acc = some r1) ∧ Lib.IsBuilder 58 5 (w.heap.size + 1) (w.heap.size + 1) (Lib.strCells acc) wr ∧ Below w.heap.size w wr ∧ w.heap.size + 1 < wr.heap.size)
      (fun _ v26 _ => l0.length - (intOf v26).toNat)
    case atStart => exact ⟨0, -1, p.1, Nat.zero_le _, rfl, rfl, by simpa using HS, hI4, hB4, by omega⟩
    case round =>
      obtain ⟨j, before, acc, hj, rfl, rfl, HE, hI, hB, hsz5⟩ := hrel
      by_cases cj : j < l0.length
      · have tj : decide (j < l0.length) = true := decide_eq_true cj
        obtain ⟨ad0, rfl, q0⟩ := Kd.at_int (Kd.C_below hr0 hB) (j : Int) (by omega) (by omega)
        simp only [Int.toNat_natCast] at q0
        have hE := HE.out
        clear HE
        rw [drop_rd' cj] at hE
        unfold encL at hE
        obtain ⟨p5, hp5, hE⟩ := Option.bind_eq_some_iff.1 hE
        split at hE
        case isFalse => cases hE
        rename_i hlen5
        have HE5 := Aside0.mk hE
        have HP5 := Aside0.mk hp5
        clear hE hp5
        go_wp2_with (first | (go_at_call 47; refine (varint_Append.calls k ⟨#[]⟩ _ p5.1 p5.2 _ HP5.out).mono ?_; rintro e W5 ⟨rfl, hb5⟩; have hI5 := isBuilder_below hI hb5; have hB5 := hB.trans (hb5.mono hB.size); have hs5 := hb5.size) | (go_at_call 48; refine (builder_write (w.heap.size + 1) (w.heap.size + 1) _ p5.1 _ hI5 (by rw [Lib.strCells_length]; exact hlen5) (by omega)).mono ?_; rintro e W6 ⟨rfl, hA6, hb6⟩; have hs6 := hb6.size))
        go_roundw
        case rel => exact ⟨j + 1, _, acc ++ p5.1, by omega, rfl, by go_num, HE5, by rw [strCells_append]; exact .inr hA6, hB5.trans (hb6.mono (by omega)), by omega⟩
        case measure => simp [intOf]; omega
      · have tj : decide (j < l0.length) = false := decide_eq_false cj
        have hE := HE.out
        clear HE
        rw [List.drop_eq_nil_of_le (by omega)] at hE
        cases hE
        go_wp2_with (go_at_call 49; refine (builder_string (w.heap.size + 1) (w.heap.size + 1) r1.data.toList _ hI (by omega)).mono ?_; rintro e W7 ⟨rfl, hb7⟩)
        go_ret2
        exact ⟨rfl, hB.trans (hb7.mono (by omega))⟩
  · have hv' : t = false := by simpa using hv
    subst hv'
    rw [if_neg (by simp)] at h
    cases h
    go_wp2_with (go_at_call 40; refine (postings_valid.calls k (some ⟨w.heap.size, 0, none⟩) 1 [l0] false _ hC (Nat.le_refl _) HT.out).mono ?_; rintro e w' ⟨rfl, ⟨nd, rfl⟩⟩)
    go_ret2
    exact ⟨rfl, pw_below_drewN hB0 nd⟩
end Go.Proofs.Ytdmdhpnlalekfaa.Hand
