/- The contract of varint.read: what the Go function returns for any string that a machine can hold. No further condition. -/
import Derived.Test.YtdmdhpnlalekfaaProg
import Derived.Test.YtdmdhpnlalekfaaSeq
import Derived.Test.YtdmdhpnlalekfaaWMore
import Derived.RangeFuncBox
import Derived.Shelf.Abstract
import Derived.WalkKit
import Derived.OwnWalkIn
import Derived.TacticsInMore
import Derived.LoopNIn
import Derived.LoopIn
import Derived.Laws.BitsAllLaws
import Derived.StillTailTactics
namespace Go.Proofs.Ytdmdhpnlalekfaa.Hand
open Go.RowKit Go.Shelf Go.Proofs.YtdmdhpnlalekfaaW.PrintWords Go.Proofs.YtdmdhpnlalekfaaW.PrintMore Go.Proofs.Ytdmdhpnlalekfaa.Seq
attribute [local go_sem] Oper.semAt_some

/-- Where an encoding's first bytes end: at the ninth, at the first one below 128, or at the string's end. -/
structure FB (s : ByteArray) (L : Nat) : Prop where
  le9 : L ≤ 9
  les : L ≤ s.size
  pre : ∀ j : Nat, j + 1 < L → 128 ≤ bt s j
  stop : L = 9 ∨ L = s.size ∨ (0 < L ∧ bt s ((L - 1 : Nat) : Int) < 128)

theorem FB.ex_from (s : ByteArray) (d : Nat) : ∀ i : Nat, i + d = 9 → i ≤ s.size → (∀ j : Nat, j < i → 128 ≤ bt s j) → ∃ L, FB s L := by
  induction d with
  | zero => intro i hi hs hp; exact ⟨i, by omega, hs, fun j hj => hp j (by omega), .inl (by omega)⟩
  | succ d ih =>
    intro i hi hs hp
    by_cases hlt : i < s.size
    · by_cases hb : bt s i < 128
      · exact ⟨i + 1, by omega, by omega, fun j hj => hp j (by omega), .inr (.inr ⟨by omega, by simpa using hb⟩)⟩
      · exact ih (i + 1) (by omega) (by omega) (fun j hj => by
          rcases Nat.lt_or_ge j i with h | h
          · exact hp j h
          · have : j = i := by omega
            subst this; omega)
    · exact ⟨i, by omega, hs, fun j hj => hp j (by omega), .inr (.inl (by omega))⟩
theorem FB.ex (s : ByteArray) : ∃ L, FB s L := FB.ex_from s 9 0 rfl (Nat.zero_le _) (fun j hj => absurd hj (Nat.not_lt_zero j))

theorem FB.more {s : ByteArray} {L k : Nat} (h : FB s L) (hk : k ≤ L) (hp : ∀ j : Nat, j < k → 128 ≤ bt s j) (h9 : k < 9) (hs : k < s.size) : k < L := by
  rcases h.stop with e | e | ⟨e1, e2⟩
  · omega
  · omega
  · rcases Nat.lt_or_ge k L with h' | h'
    · exact h'
    · have := hp (L - 1) (by omega); omega

theorem FB.last {s : ByteArray} {L k : Nat} (h : FB s L) (hk : k < L) (hb : bt s k < 128) : L = k + 1 := by
  rcases Nat.lt_or_ge (k + 1) L with h' | h'
  · have := h.pre k h'; omega
  · omega

/-- Box b keeps what it holds. -/
def KeepBox (b t : Nat) (W W' : World) : Prop := ∀ v, Boxed W b t v → Boxed W' b t v
theorem keepBox_t {b t : Nat} {A B C : World} (h : KeepBox b t A B) (k : KeepBox b t B C) : KeepBox b t A C := fun v hv => k v (h v hv)
theorem keepBox_b {b t : Nat} {n : Nat} (W : World) (l : Nat) (o o' : Obj) (_ : n ≤ l) (hl : W.heap[l]? = some o) (ho : o.isCells = false) (_ : o.isWalk = false) : KeepBox b t W (W.putObj l o') :=
  fun _ hv => hv.kept (grownBy_putObj' W l o') (fun e => by cases e; rw [show W.heap[b]? = _ from hv] at hl; cases hl; cases ho)
theorem keepBox_set {b t c : Nat} (hc : c ≠ b) (W : World) (u : Value) : KeepBox b t W (W.setCell ⟨c, 0, none⟩ u) :=
  fun _ hv => hv.kept (grownBy_setCell' W c u) (fun e => by cases e; exact hc rfl)
theorem keepBox_refl (b t : Nat) (W : World) : KeepBox b t W W := fun _ h => h
theorem keepBox_drew (b t : Nat) (W : World) (n : Nat) : KeepBox b t W (W.drewN n) := fun _ h => h

theorem abides_of {β : Type} {B : Nat} {J : β → World → Prop} (h : AbidesFrom B J) {s : β} {W W' : World} (hs : J s W) (hg : W.grownBy W' none) : J s W' := h s W W' none hs hg (fun r e => by cases e)

set_option maxRecDepth 100000 in
set_option maxHeartbeats 2000000 in
/-- The closure that firstBytes returns yields the indices and bytes up to L. -/
theorem firstBytes_seq (n : Nat) (hn : 1 ≤ n) (b : Nat) (s : ByteArray) (L : Nat) (hL : FB s L) (w : World) (hbx : Boxed w b 9 (.string s)) :
    SeqL Fence.wide n Try.prog 70 #[.pointer (some ⟨b, 0, none⟩)] (fun k => #[.int .i64 k, .int .u8 (bt s k)]) L (KeepBox b 9) w := by
  intro l J Jx W hW hJ hJx hY h0
  have hbW : Boxed W b 9 (.string s) := (hW.block b hbx.lt).trans hbx
  refine callsIn_of_wp Try.func70 rfl trivial ?_ rfl
  simp only [Try.ntmps70, List.size_toArray, List.length_cons, List.length_nil, Nat.reduceAdd, Nat.reduceSub, Array.replicate_succ, Array.replicate_zero, List.push_toArray, List.append_toArray, List.nil_append, List.cons_append]
  gi_wp2
  gi_loopw [3] (fun i wr => ∃ k : Nat, k ≤ L ∧ (∀ j : Nat, j < k → 128 ≤ bt s j) ∧ i = .int .i64 k ∧ J k wr ∧ Boxed wr b 9 (.string s))
    (fun i _ => 9 - (intOf i).toNat)
  case atStart => exact ⟨0, Nat.zero_le _, fun j hj => absurd hj (Nat.not_lt_zero j), rfl, h0, hbW⟩
  case round =>
    obtain ⟨k, hk, hp, rfl, hJs, hbr⟩ := hrel
    have hL9 := hL.le9
    have hLs := hL.les
    have hc := hbr.cell
    by_cases hks : k < s.size
    · by_cases hk9 : k < 9
      · have hkL := hL.more hk hp hk9 hks
        have hx : ∀ h : k < s.size, ((s[k]'h).toNat : Int) = bt s k := fun h => bt_at s k h
        obtain ⟨fn, tmps, assign, body, hy, hR⟩ := hY k wr hkL hJs
        try dsimp only at hy
        gi_wp2
        refine hR.mono ?_
        rintro e W3 (⟨rfl, hJ3, hk3⟩ | ⟨rfl, hJx3⟩)
        · have hb3 := hk3 _ hbr
          have hc3 := hb3.cell
          by_cases hlow : bt s k < 128
          · have hlow2 : decide (bt s k < 128) = true := decide_eq_true hlow
            have hLk : L = k + 1 := hL.last hkL hlow
            gi_wp2
            refine bodyPost_ret (results_none rfl _ _ _) rfl ?_
            exact ⟨⟨_, rfl⟩, .inl (by rw [hLk]; exact hJ3)⟩
          · have hlow2 : decide (bt s k < 128) = false := decide_eq_false hlow
            gi_wp2
            go_roundw
            case rel => exact ⟨k + 1, by omega, fun j hj => by
              rcases Nat.lt_or_ge j k with h | h
              · exact hp j h
              · obtain rfl : j = k := by omega
                omega, by go_num, hJ3, hb3⟩
            case measure => simp [intOf]; omega
        · gi_wp2
          refine bodyPost_ret (results_none rfl _ _ _) rfl ?_
          exact ⟨⟨_, rfl⟩, .inr ⟨k + 1, by omega, hJx3⟩⟩
      · obtain rfl : k = 9 := by omega
        obtain rfl : L = 9 := by omega
        gi_wp2
        go_end0
        exact ⟨⟨_, rfl⟩, .inl hJs⟩
    · obtain rfl : k = s.size := by omega
      obtain rfl : L = s.size := by omega
      gi_wp2
      go_end0
      exact ⟨⟨_, rfl⟩, .inl hJs⟩

set_option maxHeartbeats 1000000 in
theorem firstBytes_in (n : Nat) (s : ByteArray) (w : World) :
    CallsIn Fence.wide n Try.prog 66 #[.string s] w fun e w' => e = .returned (.func (.func 70) #[] #[.pointer (some ⟨w.heap.size, 0, none⟩)]) ∧ w' = w.alloc (.cells #[.string s] 9) := by
  refine callsIn_of_wp Try.func66 rfl trivial ?_ rfl
  simp only [Try.ntmps66, List.size_toArray, List.length_cons, List.length_nil, Nat.reduceAdd, Nat.reduceSub, Array.replicate_succ, Array.replicate_zero, List.push_toArray, List.append_toArray, List.nil_append, List.cons_append]
  gi_wp2
  go_ret
  exact ⟨rfl, rfl⟩

/-- What read comes to, from index i on, with the number n so far. -/
def readFrom (s : ByteArray) : Nat → Nat → Int → Int × Int × Int
  | 0, _, _ => (0, 0, 11)
  | d + 1, i, n =>
    if i < s.size then
      if (128 ≤ bt s i ∧ i = 8) ∨ (bt s i = 0 ∧ 0 < i) then (0, 0, 12)
      else if bt s i < 128 then (n + bt s i * 128 ^ i, (i : Int) + 1, 0)
      else readFrom s d (i + 1) (n + (bt s i - 128) * 128 ^ i)
    else (0, 0, 11)
def varint_read.f (a0 : ByteArray) : Option (Int × Int × Int) := some (readFrom a0 9 0 0)

theorem shl_or (k : Nat) (n b : Int) (hk : k ≤ 8) (hn : 0 ≤ n) (hn2 : n < 128 ^ k) (hb : 0 ≤ b) (hb2 : b < 256) :
    bits .or .u64 n (IntKind.u64.wrap (bits .and .u8 b 127 * 2 ^ (7 * k))) = n + (b % 128) * 128 ^ k := by
  have e1 : bits .and .u8 b 127 = b % 128 := by
    rw [u8_and b 127 hb hb2 (by omega) (by omega)]
    show ((b.toNat &&& 127 : Nat) : Int) = _
    rw [nat_mask7]; omega
  rw [e1]
  obtain ⟨m, hm⟩ : ∃ m : Nat, b % 128 = (m : Int) := ⟨(b % 128).toNat, by omega⟩
  have hm2 : m < 128 := by omega
  obtain ⟨q, rfl⟩ := Int.eq_ofNat_of_zero_le hn
  rw [hm]
  have hp : (2 : Nat) ^ (7 * k) = 128 ^ k := by rw [Nat.pow_mul]
  have hk8 : (128 : Nat) ^ k ≤ 128 ^ 8 := Nat.pow_le_pow_right (by omega) hk
  have hq : q < 128 ^ k := by exact_mod_cast hn2
  have hmq : m * 128 ^ k ≤ 127 * 128 ^ 8 := Nat.mul_le_mul (by omega) hk8
  have e2 : (m : Int) * 2 ^ (7 * k) = ((m * 128 ^ k : Nat) : Int) := by
    rw [← hp]; push_cast; rfl
  have e3 : (m : Int) * 128 ^ k = ((m * 128 ^ k : Nat) : Int) := by push_cast; rfl
  rw [e2, e3, IntKind.wrap_u64]
  have e4 : ((m * 128 ^ k : Nat) : Int) % 18446744073709551616 = ((m * 128 ^ k : Nat) : Int) := by omega
  rw [e4, u64_or_nat _ _ (by omega) (by omega), Nat.or_comm, nat_join (7 * k) _ _ (by rw [hp]; exact Nat.mul_mod_left _ _) (by rw [hp]; exact hq)]
  push_cast
  omega

theorem run_shl (P : Program) (k : Nat) (b : Int) (hk : k ≤ 8) (hb : 0 ≤ b) (hb2 : b < 256) (W : World) :
    Sem.run P (Op.shift .shl .u64 (IntKind.u64.wrap (bits .and .u8 b 127)) .i64 (IntKind.i64.wrap (7 * (k : Int)))) W = .ok (.int .u64 (IntKind.u64.wrap (bits .and .u8 b 127 * 2 ^ (7 * k)))) W := by
  have e1 : bits .and .u8 b 127 = b % 128 := by
    rw [u8_and b 127 hb hb2 (by omega) (by omega)]
    show ((b.toNat &&& 127 : Nat) : Int) = _
    rw [nat_mask7]; omega
  have e2 : IntKind.i64.wrap (7 * (k : Int)) = 7 * (k : Int) := IntWalk.i64_in _ (by omega)
  have e3 : IntKind.u64.wrap (b % 128) = b % 128 := by rw [IntKind.wrap_u64]; omega
  have e4 : (7 * (k : Int)).toNat = 7 * k := by omega
  rw [e2, e1, e3]
  unfold Op.shift
  rw [if_neg (by omega), e4]
  simp only [Nat.min_eq_left (show 7 * k ≤ IntKind.u64.bits from by simp [IntKind.bits]; omega)]
  rfl
theorem box_kept {Bnd : Nat} {X Y : World} {row : Option Nat} {b t : Nat} {v : Value} (h : Boxed X b t v) (hg : X.grownBy Y row) (hr : ∀ r, row = some r → Bnd ≤ r ∧ ∃ o : Obj, X.heap[r]? = some o ∧ o.isCells = false) : Boxed Y b t v :=
  h.kept hg (fun e => by
    obtain ⟨_, o, ho, hc⟩ := hr b e.symm
    rw [show X.heap[b]? = _ from h] at ho
    cases ho; cases hc)
theorem below_kept {Bnd n₀ : Nat} {w X Y : World} {row : Option Nat} (h : Below n₀ w X) (hn : n₀ ≤ w.heap.size) (hB : n₀ ≤ Bnd) (hg : X.grownBy Y row) (hr : ∀ r, row = some r → Bnd ≤ r ∧ ∃ o : Obj, X.heap[r]? = some o ∧ o.isCells = false) : Below n₀ w Y :=
  h.grown hg (Nat.le_trans hn h.size) (fun k e => Nat.le_trans hB (hr k e).1)
theorem box_other {W : World} {b c t : Nat} {v : Value} (h : Boxed W b t v) (hc : b ≠ c) (u : Value) : Boxed (W.setCell ⟨c, 0, none⟩ u) b t v :=
  h.kept (grownBy_setCell' W c u) (fun e => by cases e; exact hc rfl)

theorem box_drew {W : World} {b t : Nat} {v : Value} (h : Boxed W b t v) : Boxed W.drew b t v := h
theorem keepBox_drew1 {b t : Nat} {W W' : World} (h : KeepBox b t W W') : KeepBox b t W W'.drew := h
theorem keepsFrom_drew {B : Nat} {W W' : World} (h : KeepsFrom B W W') : KeepsFrom B W W'.drew := ⟨h.size, h.same⟩
theorem box_shut {W : World} {b t D : Nat} {v : Value} (h : Boxed W b t v) (hK : W.heap[D]? = some (.deferred (some []))) : Boxed (W.putObj D (.deferred none)) b t v :=
  box_kept (Bnd := 0) h (grownBy_putObj' W D (.deferred none)) (fun r e => by cases e; exact ⟨Nat.zero_le _, _, hK, rfl⟩)
theorem below_shut {w W : World} {D n₀ : Nat} (h : Below n₀ w W) (hn : n₀ ≤ w.heap.size) (hD : n₀ ≤ D) (hK : W.heap[D]? = some (.deferred (some []))) : Below n₀ w (W.putObj D (.deferred none)) :=
  below_kept (Bnd := D) h hn hD (grownBy_putObj' W D (.deferred none)) (fun r e => by cases e; exact ⟨Nat.le_refl _, _, hK, rfl⟩)

set_option maxRecDepth 100000 in
set_option maxHeartbeats 4000000 in
theorem varint_read.calls (a0 : ByteArray) (r1 r2 r3 : Int) (w : World) (h : varint_read.f a0 = some (r1, r2, r3)) :
    Calls Try.prog 57 #[.string a0] w fun e w' => e = .returned (.tuple #[.int .u64 r1, .int .i64 r2, .int .i64 r3]) ∧ Below w.heap.size w w' := by
  obtain ⟨L, hL⟩ := FB.ex a0
  simp only [varint_read.f, Option.some.injEq] at h
  have H := Aside0.mk h
  clear h
  refine (callsIn_wide (n := 4)).1 ?_
  refine callsIn_of_wp_marks Try.func57 rfl trivial ?_ rfl
  simp only [Try.ntmps57, List.size_toArray, List.length_cons, List.length_nil, Nat.reduceAdd, Nat.reduceSub, Array.replicate_succ, Array.replicate_zero, List.push_toArray, List.append_toArray, List.nil_append, List.cons_append]
  gi_wp2_with fail
  refine ⟨trivial, (firstBytes_in _ _ _).mono ?_⟩
  rintro e w' ⟨rfl, rfl⟩
  gi_wp2
  have b0 : Boxed (w.alloc (.cells #[.int .u64 0] 71)) w.heap.size 71 (.int .u64 0) := Boxed.new w _ _
  have b1 := Boxed.new (w.alloc (.cells #[.int .u64 0] 71)) 3 (.int .i64 0)
  have b2 := Boxed.new ((w.alloc (.cells #[.int .u64 0] 71)).alloc (.cells #[.int .i64 0] 3)) 24 (.int .i64 0)
  have b3 := Boxed.new (((w.alloc (.cells #[.int .u64 0] 71)).alloc (.cells #[.int .i64 0] 3)).alloc (.cells #[.int .i64 0] 24)) 71 (.int .u64 0)
  have b4 := Boxed.new ((((w.alloc (.cells #[.int .u64 0] 71)).alloc (.cells #[.int .i64 0] 3)).alloc (.cells #[.int .i64 0] 24)).alloc (.cells #[.int .u64 0] 71)) 9 (.string a0)
  simp only [World.size_alloc] at b1 b2 b3 b4
  have hB0 : Below w.heap.size w (((((w.alloc (.cells #[.int .u64 0] 71)).alloc (.cells #[.int .i64 0] 3)).alloc (.cells #[.int .i64 0] 24)).alloc (.cells #[.int .u64 0] 71)).alloc (.cells #[.string a0] 9)) :=
    (((((Below.refl _ w).alloc (Nat.le_refl _) _).alloc (by simp) _).alloc (by simp; omega) _).alloc (by simp; omega) _).alloc (by simp; omega) _
  refine rangeFunc_L (F := Fence.wide) rfl (by omega) (gf := 70) (lb := #[.pointer (some ⟨w.heap.size + 1 + 1 + 1 + 1, 0, none⟩)]) rfl trivial (enters_of Try.func70 (by kernel_rfl) rfl)
    (firstBytes_seq (4 - 1) (by omega) _ a0 L hL _ b4) keepBox_t (fun W l o o' hl ho h1 h2 => keepBox_b W l o o' hl ho h1 h2) (Below.refl _ _) (fun _ => rfl)
    (fun k W => (∃ n : Int, 0 ≤ n ∧ n < 128 ^ k ∧ k ≤ 9 ∧ (∀ j : Nat, j < k → 128 ≤ bt a0 j) ∧ Aside0 (readFrom a0 (9 - k) k n = (r1, r2, r3)) ∧ Boxed W (w.heap.size + 1 + 1 + 1) 71 (.int .u64 n)) ∧
      Boxed W w.heap.size 71 (.int .u64 0) ∧ Boxed W (w.heap.size + 1) 3 (.int .i64 0) ∧ Boxed W (w.heap.size + 1 + 1) 24 (.int .i64 0) ∧ Below w.heap.size w W)
    (fun c k W => c = .ret ∧ Boxed W w.heap.size 71 (.int .u64 r1) ∧ Boxed W (w.heap.size + 1) 3 (.int .i64 r2) ∧ Boxed W (w.heap.size + 1 + 1) 24 (.int .i64 r3) ∧ Below w.heap.size w W)
    (fun s X Y row hs hg hr => by
      obtain ⟨⟨n, h1, h2, h3, h4, h5, h6⟩, h7, h8, h9, h10⟩ := hs
      exact ⟨⟨n, h1, h2, h3, h4, h5, box_kept h6 hg hr⟩, box_kept h7 hg hr, box_kept h8 hg hr, box_kept h9 hg hr, below_kept h10 (Nat.le_refl _) (by simp; omega) hg hr⟩)
    (fun c s X Y row hs hg hr => by
      obtain ⟨h0, h7, h8, h9, h10⟩ := hs
      exact ⟨h0, box_kept h7 hg hr, box_kept h8 hg hr, box_kept h9 hg hr, below_kept h10 (Nat.le_refl _) (by simp; omega) hg hr⟩)
    ⟨⟨0, by omega, by simp, by omega, fun j hj => absurd hj (Nat.not_lt_zero j), H, b3.alloc _⟩, (((b0.alloc _).alloc _).alloc _).alloc _, ((b1.alloc _).alloc _).alloc _, (b2.alloc _).alloc _, hB0⟩
    (fun k => { tmps := #[.string a0, undef, .pointer (some ⟨w.heap.size, 0, none⟩), .pointer (some ⟨w.heap.size + 1, 0, none⟩), .pointer (some ⟨w.heap.size + 1 + 1, 0, none⟩), .pointer (some ⟨w.heap.size + 1 + 1 + 1, 0, none⟩), .int .i64 k, .int .u8 (bt a0 k), .string a0, .func (.func 70) #[] #[.pointer (some ⟨w.heap.size + 1 + 1 + 1 + 1, 0, none⟩)], .int .i64 k, .int .u8 (bt a0 k), undef, undef, undef, undef, undef, undef, undef, undef, undef, undef, undef, undef, undef, undef, undef, undef, undef, undef, undef, undef, undef, undef, undef, undef, undef, undef, undef], defers := [] }) ?assign ?body ?done ?stop
  case assign =>
    intro l k W K hk hK
    gi_wp2
    exact hK
  case body =>
    rintro l k W hk ⟨⟨n, h1, h2, h3, h4, h5, h6⟩, h7, h8, h9, h10⟩
    have c6 := h6.cell
    have f6 := h6.frozen
    have c7 := h7.cell
    have f7 := h7.frozen
    have c8 := h8.cell
    have f8 := h8.frozen
    have c9 := h9.cell
    have f9 := h9.frozen
    obtain ⟨g0, g1⟩ := bt_range a0 k
    have hL9 := hL.le9
    have hLs := hL.les
    have H5 := h5.out
    clear h5
    obtain ⟨d, hd⟩ : ∃ d, 9 - k = d + 1 := ⟨9 - k - 1, by omega⟩
    rw [hd] at H5
    simp only [readFrom] at H5
    rw [if_pos (by omega : k < a0.size)] at H5
    by_cases hcond : (128 ≤ bt a0 k ∧ k = 8) ∨ (bt a0 k = 0 ∧ 0 < k)
    · rw [if_pos hcond] at H5
      simp only [Prod.mk.injEq] at H5
      obtain ⟨rfl, rfl, rfl⟩ := H5
      rcases hcond with ⟨hb, rfl⟩ | ⟨hb, hk0⟩
      · have t1 : decide (128 ≤ bt a0 ((8 : Nat) : Int)) = true := decide_eq_true hb
        have t2 : (((8 : Nat) : Int) == 8) = true := rfl
        gi_wp2
        exact ⟨(((KeepsOthers.setCell _ _ _).trans (KeepsOthers.setCell _ _ _)).trans (KeepsOthers.setCell _ _ _)).from _, rfl, box_other (box_other (h7.set _) (by omega) _) (by omega) _, box_other ((box_other h8 (by omega) _).set _) (by omega) _, (box_other (box_other h9 (by omega) _) (by omega) _).set _, ((h10.setCell (p := ⟨_, 0, none⟩) (Nat.le_refl _) _).setCell (p := ⟨_, 0, none⟩) (by simp) _).setCell (p := ⟨_, 0, none⟩) (by simp; omega) _⟩
      · have t1 : decide (128 ≤ bt a0 k) = false := decide_eq_false (by omega)
        have t3 : (bt a0 k == 0) = true := beq_iff_eq.2 hb
        have t4 : decide (0 < k) = true := decide_eq_true hk0
        gi_wp2
        exact ⟨(((KeepsOthers.setCell _ _ _).trans (KeepsOthers.setCell _ _ _)).trans (KeepsOthers.setCell _ _ _)).from _, rfl, box_other (box_other (h7.set _) (by omega) _) (by omega) _, box_other ((box_other h8 (by omega) _).set _) (by omega) _, (box_other (box_other h9 (by omega) _) (by omega) _).set _, ((h10.setCell (p := ⟨_, 0, none⟩) (Nat.le_refl _) _).setCell (p := ⟨_, 0, none⟩) (by simp) _).setCell (p := ⟨_, 0, none⟩) (by simp; omega) _⟩
    · rw [if_neg hcond] at H5
      have hsh := shl_or k n (bt a0 k) (by omega) h1 h2 g0 (by omega)
      have hs := run_shl Try.prog k (bt a0 k) (by omega) g0 (by omega)
      by_cases hlow : bt a0 k < 128
      · rw [if_pos hlow] at H5
        simp only [Prod.mk.injEq] at H5
        obtain ⟨rfl, rfl, rfl⟩ := H5
        have t1 : decide (128 ≤ bt a0 k) = false := decide_eq_false (by omega)
        have t5 : decide (bt a0 k < 128) = true := decide_eq_true hlow
        by_cases hz : bt a0 k = 0
        · have t3 : (bt a0 k == 0) = true := beq_iff_eq.2 hz
          have t4 : decide (0 < k) = false := decide_eq_false (by omega)
          clear hz
          gi_wp2
          refine round_still_tail 8 (by kernel_rfl) (by kernel_rfl) (by kernel_rfl) (fun ⟨_, _, h⟩ => h) ?_
          simp only [List.take_succ_cons, List.take_zero, List.drop_succ_cons, List.drop_zero]
          repeat still_step
          refine wpStill_nil ?_
          change wpList _ _ _ _ _ W.drew
          go_wp2
          gi_wp2
          have hval : n + bt a0 k % 128 * 128 ^ k = n + bt a0 k * 128 ^ k := by rw [Int.emod_eq_of_lt g0 hlow]
          rw [hval]
          exact ⟨keepsFrom_drew (((((KeepsOthers.setCell _ _ _).trans (KeepsOthers.setCell _ _ _)).trans (KeepsOthers.setCell _ _ _)).trans (KeepsOthers.setCell _ _ _)).from _), rfl, box_drew (box_other (box_other ((box_other h7 (by omega) _).set _) (by omega) _) (by omega) _), box_drew (box_other ((box_other (box_other h8 (by omega) _) (by omega) _).set _) (by omega) _), box_drew ((box_other (box_other (box_other h9 (by omega) _) (by omega) _) (by omega) _).set _), ((((h10.setCell (p := ⟨_, 0, none⟩) (by simp; omega) _).setCell (p := ⟨_, 0, none⟩) (Nat.le_refl _) _).setCell (p := ⟨_, 0, none⟩) (by simp) _).setCell (p := ⟨_, 0, none⟩) (by simp; omega) _).drew⟩
        · have t3 : (bt a0 k == 0) = false := beq_eq_false_iff_ne.2 hz
          clear hz
          gi_wp2
          refine round_still_tail 8 (by kernel_rfl) (by kernel_rfl) (by kernel_rfl) (fun ⟨_, _, h⟩ => h) ?_
          simp only [List.take_succ_cons, List.take_zero, List.drop_succ_cons, List.drop_zero]
          repeat still_step
          refine wpStill_nil ?_
          change wpList _ _ _ _ _ W.drew
          go_wp2
          gi_wp2
          have hval : n + bt a0 k % 128 * 128 ^ k = n + bt a0 k * 128 ^ k := by rw [Int.emod_eq_of_lt g0 hlow]
          rw [hval]
          exact ⟨keepsFrom_drew (((((KeepsOthers.setCell _ _ _).trans (KeepsOthers.setCell _ _ _)).trans (KeepsOthers.setCell _ _ _)).trans (KeepsOthers.setCell _ _ _)).from _), rfl, box_drew (box_other (box_other ((box_other h7 (by omega) _).set _) (by omega) _) (by omega) _), box_drew (box_other ((box_other (box_other h8 (by omega) _) (by omega) _).set _) (by omega) _), box_drew ((box_other (box_other (box_other h9 (by omega) _) (by omega) _) (by omega) _).set _), ((((h10.setCell (p := ⟨_, 0, none⟩) (by simp; omega) _).setCell (p := ⟨_, 0, none⟩) (Nat.le_refl _) _).setCell (p := ⟨_, 0, none⟩) (by simp) _).setCell (p := ⟨_, 0, none⟩) (by simp; omega) _).drew⟩
      · rw [if_neg hlow] at H5
        have t1 : decide (128 ≤ bt a0 k) = true := decide_eq_true (by omega)
        have t2 : ((k : Int) == 8) = false := beq_eq_false_iff_ne.2 (by omega)
        have t3 : (bt a0 k == 0) = false := beq_eq_false_iff_ne.2 (by omega)
        have t5 : decide (bt a0 k < 128) = false := decide_eq_false hlow
        have H6 := Aside0.mk H5
        clear H5
        gi_wp2
        refine round_still_tail 8 (by kernel_rfl) (by kernel_rfl) (by kernel_rfl) (fun ⟨_, _, h⟩ => h) ?_
        simp only [List.take_succ_cons, List.take_zero, List.drop_succ_cons, List.drop_zero]
        repeat still_step
        refine wpStill_nil ?_
        change wpList _ _ _ _ _ W.drew
        go_wp2
        gi_wp2
        refine ⟨keepsFrom_drew ((KeepsOthers.setCell _ _ _).from _), keepBox_drew1 (keepBox_set (by omega) _ _), ⟨_, ?_, ?_, by omega, fun j hj => ?_, ?_, box_drew (h6.set _)⟩, box_drew (box_other h7 (by omega) _), box_drew (box_other h8 (by omega) _), box_drew (box_other h9 (by omega) _), (h10.setCell (p := ⟨_, 0, none⟩) (by simp; omega) _).drew⟩
        · have : 0 ≤ bt a0 k % 128 * 128 ^ k := Int.mul_nonneg (by omega) (Int.pow_nonneg (by omega))
          omega
        · have e : (128 : Int) ^ (k + 1) = 128 ^ k + 127 * 128 ^ k := by rw [Int.pow_succ]; omega
          have : bt a0 k % 128 * 128 ^ k ≤ 127 * 128 ^ k := Int.mul_le_mul_of_nonneg_right (by omega) (Int.pow_nonneg (by omega))
          omega
        · rcases Nat.lt_or_ge j k with h | h
          · exact h4 j h
          · obtain rfl : j = k := by omega
            omega
        · refine ⟨?_⟩
          have e1 : 9 - (k + 1) = d := by omega
          have e2 : bt a0 k % 128 = bt a0 k - 128 := by omega
          rw [e1, e2]
          exact H6.out
  case done =>
    rintro D W hD ⟨⟨n, h1, h2, h3, h4, h5, h6⟩, h7, h8, h9, h10⟩ hK
    have hend : readFrom a0 (9 - L) L n = (0, 0, 11) := by
      rcases hL.stop with e | e | ⟨e1, e2⟩
      · subst e; rfl
      · obtain ⟨d, hd⟩ | hd : (∃ d, 9 - L = d + 1) ∨ 9 - L = 0 := by
          rcases Nat.eq_zero_or_pos (9 - L) with h | h
          · exact .inr h
          · exact .inl ⟨9 - L - 1, by omega⟩
        · rw [hd]; simp only [readFrom]; rw [if_neg (by omega)]
        · rw [hd]; rfl
      · have := h4 (L - 1) (by omega); omega
    have H5 := h5.out
    clear h5
    rw [hend] at H5
    simp only [Prod.mk.injEq] at H5
    obtain ⟨rfl, rfl, rfl⟩ := H5
    have c7 := h7.cell
    have f7 := h7.frozen
    have c8 := h8.cell
    have f8 := h8.frozen
    have c9 := h9.cell
    have f9 := h9.frozen
    have hD' : w.heap.size ≤ D := by simp at hD; omega
    clear hD
    gi_wp2
    have hK' := (((KeepsOthers.setCell W ⟨w.heap.size, 0, none⟩ (.int .u64 0)).trans (KeepsOthers.setCell _ ⟨w.heap.size + 1, 0, none⟩ (.int .i64 0))).trans (KeepsOthers.setCell _ ⟨w.heap.size + 1 + 1, 0, none⟩ (.int .i64 11))).same D _ hK rfl
    have g7 := (box_shut (box_other (box_other (h7.set (.int .u64 0)) (by omega) _) (by omega) _) hK').cell
    have g8 := (box_shut (box_other ((box_other h8 (by omega) _).set (.int .i64 0)) (by omega) _) hK').cell
    have g9 := (box_shut ((box_other (box_other h9 (by omega) _) (by omega) _).set (.int .i64 11)) hK').cell
    refine ⟨by simp, .inl ⟨_, _, rfl, run_takeDeferred hK', ?_⟩⟩
    refine ⟨.tuple #[.int .u64 0, .int .i64 0, .int .i64 11], ?_, rfl, below_shut (((h10.setCell (p := ⟨_, 0, none⟩) (Nat.le_refl _) _).setCell (p := ⟨_, 0, none⟩) (by simp) _).setCell (p := ⟨_, 0, none⟩) (by simp; omega) _) (Nat.le_refl _) hD' hK'⟩
    simp [results, Try.f57, go_sem, g7, g8, g9]
  case stop =>
    rintro D c k W hD hk ⟨rfl, h7, h8, h9, h10⟩ hK
    have hD' : w.heap.size ≤ D := by simp at hD; omega
    clear hD
    gi_wp2
    have g7 := (box_shut h7 hK).cell
    have g8 := (box_shut h8 hK).cell
    have g9 := (box_shut h9 hK).cell
    refine ⟨by simp, .inl ⟨_, _, rfl, run_takeDeferred hK, ?_⟩⟩
    refine ⟨.tuple #[.int .u64 r1, .int .i64 r2, .int .i64 r3], ?_, rfl, below_shut h10 (Nat.le_refl _) hD' hK⟩
    simp [results, Try.f57, go_sem, g7, g8, g9]
end Go.Proofs.Ytdmdhpnlalekfaa.Hand
