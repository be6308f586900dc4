/- Plain facts on the functions of the varint chapter and of its reference, as the printed texts tell them. No condition beyond those in the statements. -/
import Derived.Test.YthfcllfbihkpfaaPx
import Derived.Test.YthfcllfbihkpfaaWNEv
import Derived.Laws.BitsAllLaws
import Derived.Laws.Bits128
namespace Go.Proofs.Ythfcllfbihkpfaa.VB
open Go Go.RowKit Go.Proofs.Ythfcllfbihkpfaa.P Go.Proofs.Ythfcllfbihkpfaa.Hand Go.Proofs.YthfcllfbihkpfaaW.PrintWords Go.Proofs.YthfcllfbihkpfaaW.PrintLast Go.Proofs.YthfcllfbihkpfaaW.PrintMore

/-! ## The bytes of a number -/
/-- The groups of seven bits of a number, the least significant first. -/
def G (n : Nat) : List Int := if n < 128 then [(n : Int)] else ((n % 128 + 128 : Nat) : Int) :: G (n / 128)
termination_by n
decreasing_by omega
theorem G_small {n : Nat} (h : n < 128) : G n = [(n : Int)] := by rw [G, if_pos h]
theorem G_big {n : Nat} (h : 128 ≤ n) : G n = ((n % 128 + 128 : Nat) : Int) :: G (n / 128) := by rw [G, if_neg (by omega)]
theorem G_len : ∀ (k n : Nat), n < 128 ^ (k + 1) → (G n).length ≤ k + 1 := by
  intro k
  induction k with
  | zero => intro n h; rw [G_small (by omega)]; simp
  | succ k ih =>
    intro n h
    by_cases h1 : n < 128
    · rw [G_small h1]; simp
    · rw [G_big (by omega)]
      have := ih (n / 128) (by rw [Nat.pow_succ] at h; omega)
      simp; omega
theorem G_pos (n : Nat) : 1 ≤ (G n).length := by
  by_cases h : n < 128
  · rw [G_small h]; simp
  · rw [G_big (by omega)]; simp
theorem G_byte : ∀ (n : Nat), ∀ b ∈ G n, 0 ≤ b ∧ b ≤ 255 := by
  intro n
  induction n using Nat.strongRecOn with
  | _ n ih =>
    by_cases h : n < 128
    · rw [G_small h]; intro b hb; simp at hb; omega
    · rw [G_big (by omega)]
      intro b hb
      simp only [List.mem_cons] at hb
      rcases hb with rfl | hb
      · omega
      · exact ih (n / 128) (by omega) b hb

theorem and127 (n : Nat) (h : n < 18446744073709551616) : bits .and .u64 (n : Int) 127 = ((n % 128 : Nat) : Int) := by
  have := u64_and_nat n 127 h (by omega)
  rw [nat_mask7] at this
  exact this
theorem ag_l0 : ∀ (k : Nat) (l : List Int) (n : Nat), n < 128 ^ (k + 1) → n < 18446744073709551616 → l.length + k < 140737488355328 → varint_appendGroups.l0 (k + 1) l n = some (l ++ G n) := by
  intro k
  induction k with
  | zero =>
    intro l n h1 h2 h3
    simp only [varint_appendGroups.l0]
    rw [if_neg (by omega), if_pos (by omega), G_small (by omega), show (n : Int) % 256 = n by omega]
  | succ k ih =>
    intro l n h1 h2 h3
    rw [varint_appendGroups.l0]
    by_cases h : n < 128
    · rw [if_neg (by omega), if_pos (by omega), G_small h, show (n : Int) % 256 = n by omega]
    · rw [if_pos (by omega), if_pos (by omega), and127 n h2, show (((n % 128 : Nat) : Int) % 256) = ((n % 128 : Nat) : Int) by omega, u8_or128_right _ (by omega) (by omega),
        show (n : Int) / 128 = ((n / 128 : Nat) : Int) by omega]
      have := ih (l ++ [((n % 128 : Nat) : Int) + 128]) (n / 128) (by rw [Nat.pow_succ] at h1; omega) (by omega) (by simp; omega)
      rw [this, G_big (n := n) (by omega)]
      simp
theorem ag_ev (l : List Int) (n : Nat) (hn : n < 18446744073709551616) (hl : l.length ≤ 140737488350000) : Ev (fun k => varint_appendGroups.f k l n) (l ++ G n) :=
  Ev.of (k := 10) (fun k => varint_appendGroups.mono l n k) (ag_l0 9 l n (by omega) hn (by omega))
theorem put_l0 : ∀ (k : Nat) (n : Nat) (l : List Int), n < 128 ^ (k + 1) → n < 9223372036854775808 → l.length + k < 140737488355328 → lookoutref01_put.l0 (k + 1) n l = some (strOfNums (l ++ G n)) := by
  intro k
  induction k with
  | zero =>
    intro n l h1 h2 h3
    simp only [lookoutref01_put.l0]
    rw [if_neg (by omega), if_pos (by omega), G_small (by omega), show (n : Int) % 256 = n by omega]
  | succ k ih =>
    intro n l h1 h2 h3
    rw [lookoutref01_put.l0]
    by_cases h : n < 128
    · rw [if_neg (by omega), if_pos (by omega), G_small h, show (n : Int) % 256 = n by omega]
    · have e1 : Int.tdiv (n : Int) 128 = ((n / 128 : Nat) : Int) := by rw [Int.tdiv_eq_ediv_of_nonneg (by omega)]; omega
      have e2 : Int.tmod (n : Int) 128 = ((n % 128 : Nat) : Int) := by rw [Int.tmod_eq_emod_of_nonneg (by omega)]; omega
      have e3 : wrap64 ((n / 128 : Nat) : Int) = ((n / 128 : Nat) : Int) := by unfold wrap64; omega
      have e4 : (wrap64 (((n % 128 : Nat) : Int) + 128)) % 256 = ((n % 128 : Nat) : Int) + 128 := by unfold wrap64; omega
      rw [if_pos (by omega), if_pos (by omega), e1, e2, e3, e4]
      have := ih (n / 128) (l ++ [((n % 128 : Nat) : Int) + 128]) (by rw [Nat.pow_succ] at h1; omega) (by omega) (by simp; omega)
      rw [this, G_big (n := n) (by omega)]
      simp
theorem put_ev (n : Nat) (hn : n < 9223372036854775808) : Ev (fun k => lookoutref01_put.f k n) (strOfNums (G n)) :=
  Ev.of (k := 10) (fun k => lookoutref01_put.mono n k) (by have := put_l0 9 n [] (by omega) hn (by simp); rw [List.nil_append] at this; exact this)

/-! ## Appending -/
/-- The number that stands for a signed one. -/
def zig (n : Int) : Nat := if 0 ≤ n then (2 * n).toNat else (-2 * n - 1).toNat
theorem zig_lt {n : Int} (h1 : -1152921504606846976 ≤ n) (h2 : n ≤ 1152921504606846976) : zig n ≤ 2305843009213693952 := by unfold zig; split <;> omega
theorem folded_is {n : Int} (h1 : -1152921504606846976 ≤ n) (h2 : n ≤ 1152921504606846976) : varint_folded.f n = some (zig n : Int) := by
  unfold varint_folded.f zig
  simp only [IntKind.wrap_u64]
  by_cases h : 0 ≤ n
  · rw [if_pos h, if_pos h]
    congr 1
    omega
  · rw [if_neg h, if_neg h]
    congr 1
    rw [show wrap64 (-n) = -n by unfold wrap64; omega]
    omega
theorem inRange_is (n : Int) : varint_inRange.f n = some (decide (-1152921504606846976 ≤ n ∧ n ≤ 1152921504606846976)) := by
  unfold varint_inRange.f
  by_cases h : -1152921504606846976 ≤ n
  · rw [if_pos h]; simp [h]
  · rw [if_neg h]; simp [h]
def AP (s : ByteArray) (n : Int) : ByteArray × Int := if n < 0 ∨ 1152921504606846976 < n then (⟨#[]⟩, 2) else (s ++ strOfNums (G n.toNat), 0)
def AS (s : ByteArray) (n : Int) : ByteArray × Int := if -1152921504606846976 ≤ n ∧ n ≤ 1152921504606846976 then (s ++ strOfNums (G (zig n)), 0) else (⟨#[]⟩, 2)
theorem G_len9 {n : Nat} (h : n < 9223372036854775808) : (G n).length ≤ 9 := G_len 8 n (by omega)
theorem append_ev (s : ByteArray) (n : Int) (hs : s.size ≤ 4611686018427387904) : Ev (fun k => varint_Append.f k s n) (AP s n) := by
  unfold AP
  by_cases h1 : n < 0
  · rw [if_pos (.inl h1)]
    simp only [varint_Append.f, if_pos h1]; exact Ev.now _
  · by_cases h2 : 1152921504606846976 < n
    · rw [if_pos (.inr h2)]
      simp only [varint_Append.f, if_neg h1, gt_iff_lt, if_pos h2]; exact Ev.now _
    · rw [if_neg (by omega)]
      have e : IntKind.u64.wrap n = ((n.toNat : Nat) : Int) := by rw [IntKind.wrap_u64]; omega
      simp only [varint_Append.f, if_neg h1, gt_iff_lt, if_neg h2, e]; refine Ev.bind (ag_ev [] n.toNat (by omega) (by simp)) ?_
      have := G_len9 (n := n.toNat) (by omega)
      rw [List.nil_append]; simp only [if_pos (show s.size + (strOfNums (G n.toNat)).size ≤ 9223372036854775807 from by rw [strOfNums_size]; omega)]; exact Ev.now _
theorem appendRef_ev (s : ByteArray) (n : Int) (hs : s.size ≤ 4611686018427387904) : Ev (fun k => lookoutref01_Append.f k s n) (AP s n) := by
  unfold AP
  by_cases h1 : n < 0
  · rw [if_pos (.inl h1)]
    simp only [lookoutref01_Append.f, if_pos h1]; exact Ev.now _
  · by_cases h2 : 1152921504606846976 < n
    · rw [if_pos (.inr h2)]
      simp only [lookoutref01_Append.f, if_neg h1, gt_iff_lt, if_pos h2]; exact Ev.now _
    · rw [if_neg (by omega)]
      have e : n = ((n.toNat : Nat) : Int) := by omega
      have := G_len9 (n := n.toNat) (by omega)
      simp only [lookoutref01_Append.f, if_neg h1, gt_iff_lt, if_neg h2]; refine (Ev.bind (a := strOfNums (G n.toNat)) (by have := put_ev n.toNat (by omega); rwa [← e] at this) ?_)
      simp only [if_pos (show s.size + (strOfNums (G n.toNat)).size ≤ 9223372036854775807 from by rw [strOfNums_size]; omega)]; exact Ev.now _
theorem appendSigned_ev (s : ByteArray) (n : Int) (hs : s.size ≤ 4611686018427387904) : Ev (fun k => varint_AppendSigned.f k s n) (AS s n) := by
  unfold AS
  by_cases h : -1152921504606846976 ≤ n ∧ n ≤ 1152921504606846976
  · rw [if_pos h]
    have hz := zig_lt h.1 h.2
    have := G_len9 (n := zig n) (by omega)
    simp only [varint_AppendSigned.f, inRange_is, Option.bind_some, if_pos (decide_eq_true h), folded_is h.1 h.2]; refine (Ev.bind (ag_ev [] (zig n) (by omega) (by simp)) ?_)
    rw [List.nil_append]; simp only [if_pos (show s.size + (strOfNums (G (zig n))).size ≤ 9223372036854775807 from by rw [strOfNums_size]; omega)]; exact Ev.now _
  · rw [if_neg h]
    simp only [varint_AppendSigned.f, inRange_is, Option.bind_some, decide_eq_true_eq, if_neg h]; exact Ev.now _
theorem appendSignedRef_ev (s : ByteArray) (n : Int) (hs : s.size ≤ 4611686018427387904) : Ev (fun k => lookoutref01_AppendSigned.f k s n) (AS s n) := by
  have hj : ∀ b, b = decide (n < -1152921504606846976 ∨ n > 1152921504606846976) → Ev (fun k => lookoutref01_AppendSigned.j0 k s n b) (AS s n) := by
    rintro b rfl
    unfold AS
    by_cases h : -1152921504606846976 ≤ n ∧ n ≤ 1152921504606846976
    · rw [if_pos h]
      have hz := zig_lt h.1 h.2
      have := G_len9 (n := zig n) (by omega)
      have hp := put_ev (zig n) (by omega)
      by_cases h0 : n < 0
      · have e : wrap64 ((wrap64 ((-2) * n)) - 1) = (zig n : Int) := by unfold wrap64 zig; rw [if_neg (by omega)]; omega
        refine Ev.step (f := fun k => (lookoutref01_put.f k (zig n : Int)).bind fun t185 => (if s.size + t185.size ≤ 9223372036854775807 then (some (s ++ t185, 0)) else (none))) (fun k => by simp only [lookoutref01_AppendSigned.j0]; rw [if_neg (by simp; omega), if_pos h0, e]) (Ev.bind hp ?_)
        simp only [if_pos (show s.size + (strOfNums (G (zig n))).size ≤ 9223372036854775807 from by rw [strOfNums_size]; omega)]; exact Ev.now _
      · have e : wrap64 (2 * n) = (zig n : Int) := by unfold wrap64 zig; rw [if_pos (by omega)]; omega
        refine Ev.step (f := fun k => (lookoutref01_put.f k (zig n : Int)).bind fun t186 => (if s.size + t186.size ≤ 9223372036854775807 then (some (s ++ t186, 0)) else (none))) (fun k => by simp only [lookoutref01_AppendSigned.j0]; rw [if_neg (by simp; omega), if_neg h0, e]) (Ev.bind hp ?_)
        simp only [if_pos (show s.size + (strOfNums (G (zig n))).size ≤ 9223372036854775807 from by rw [strOfNums_size]; omega)]; exact Ev.now _
    · rw [if_neg h]
      exact Ev.step (f := fun _ => some ((⟨#[]⟩ : ByteArray), (2 : Int))) (fun k => by simp only [lookoutref01_AppendSigned.j0]; rw [if_pos (by simp; omega)]) (Ev.now _)
  simp only [lookoutref01_AppendSigned.f]
  by_cases h : n < -1152921504606846976
  · simp only [if_pos h]; exact hj true (by simp [h])
  · simp only [if_neg h]; exact hj _ (by simp [h])

/-! ## Sizes -/
theorem G_one (n : Nat) : (G n).length = 1 ↔ n < 128 := by
  by_cases h : n < 128
  · rw [G_small h]; simp [h]
  · rw [G_big (n := n) (by omega)]
    have := G_pos (n / 128)
    simp only [List.length_cons]
    omega
theorem G_mono' : ∀ (n m : Nat), m ≤ n → (G m).length ≤ (G n).length := by
  intro n
  induction n using Nat.strongRecOn with
  | _ n ih =>
    intro m h
    by_cases h1 : m < 128
    · rw [G_small h1]; have := G_pos n; simpa using this
    · rw [G_big (n := m) (by omega), G_big (n := n) (by omega)]
      have := ih (n / 128) (by omega) (m / 128) (by omega)
      simpa using this
theorem G_mono {m n : Nat} (h : m ≤ n) : (G m).length ≤ (G n).length := G_mono' n m h
def SZ (n : Int) : Int := if n < 0 ∨ 1152921504606846976 < n then 0 else ((G n.toNat).length : Int)
theorem size_l0 : ∀ (k n : Nat) (c : Int), n < 128 ^ (k + 1) → 0 ≤ c → c + k < 9223372036854775800 → varint_Size.l0 (k + 1) n c = some (c - 1 + (G n).length) := by
  intro k
  induction k with
  | zero =>
    intro n c h h0 h1
    rw [varint_Size.l0, if_neg (by omega), G_small (by omega)]
    simp
  | succ k ih =>
    intro n c h h0 h1
    rw [varint_Size.l0]
    by_cases hn : n < 128
    · rw [if_neg (by omega), G_small hn]; simp
    · rw [if_pos (by omega), show (n : Int) / 128 = ((n / 128 : Nat) : Int) by omega, show wrap64 (c + 1) = c + 1 by unfold wrap64; omega,
        ih (n / 128) (c + 1) (by rw [Nat.pow_succ] at h; omega) (by omega) (by omega), G_big (n := n) (by omega)]
      simp only [List.length_cons]
      congr 1
      omega
theorem size_ev (n : Int) : Ev (fun k => varint_Size.f k n) (SZ n) := by
  have hj : ∀ b, b = decide (n < 0 ∨ n > 1152921504606846976) → Ev (fun k => varint_Size.j0 k n b) (SZ n) := by
    rintro b rfl
    unfold SZ
    by_cases h : n < 0 ∨ 1152921504606846976 < n
    · rw [if_pos h]
      exact Ev.step (fun k => by rw [varint_Size.j0, if_pos (decide_eq_true h)]) (Ev.now _)
    · rw [if_neg h]
      refine Ev.step (f := fun k => varint_Size.l0 k n 1) (fun k => by rw [varint_Size.j0, if_neg (by simpa using h)]) ?_
      refine Ev.of (k := 10) (fun k => (varint_Size.mono_l k).2 _ _) ?_
      have := size_l0 9 n.toNat 1 (by omega) (by omega) (by omega)
      rw [show ((n.toNat : Nat) : Int) = n by omega] at this
      rw [this]
      congr 1
      omega
  simp only [varint_Size.f]
  by_cases h : n < 0
  · simp only [if_pos h]; exact hj true (by simp [h])
  · simp only [if_neg h]; exact hj _ (by simp [h])
theorem sizeRef_ev (n : Int) : Ev (fun k => lookoutref01_Size.f k n) (SZ n) := by
  simp only [lookoutref01_Size.f]
  refine Ev.bind (appendRef_ev _ n (by show 0 ≤ _; omega)) ?_
  unfold AP SZ
  by_cases h : n < 0 ∨ 1152921504606846976 < n
  · simp only [if_pos h]; exact Ev.now _
  · simp only [if_neg h]
    have : ((⟨#[]⟩ : ByteArray) ++ strOfNums (G n.toNat)).size = (G n.toNat).length := by rw [ByteArray.size_append, strOfNums_size]; show 0 + _ = _; omega
    rw [this]
    exact Ev.now _
end Go.Proofs.Ythfcllfbihkpfaa.VB
