/- Plain facts on the buckets of a histogram: index and bounds are those of the reference. No condition beyond those in the statements. -/
import Derived.Test.YtclgfbhkmhhenaaAA
import Derived.Test.YtclgfbhkmhhenaaBA
import Derived.Test.YtclgfbhkmhhenaaPA
import Derived.Test.YtclgfbhkmhhenaaWNEv
namespace Go.Proofs.Ytclgfbhkmhhenaa.HK
open Go.RowKit Go.Proofs.Ytclgfbhkmhhenaa.P Go.Proofs.Ytclgfbhkmhhenaa.B Go.Proofs.Ytclgfbhkmhhenaa.A Go.Proofs.Ytclgfbhkmhhenaa.Hand Go.Proofs.YtclgfbhkmhhenaaW.PrintWords Go.Proofs.YtclgfbhkmhhenaaW.PrintLast Go.Proofs.YtclgfbhkmhhenaaW.PrintMore
set_option linter.unusedVariables false
set_option linter.unusedSimpArgs false
theorem p2 {n m : Nat} (h : n ≤ m) : (2 : Int) ^ n ≤ 2 ^ m := by
  have := Nat.pow_le_pow_right (n := 2) (by decide) h
  exact_mod_cast this
theorem p2p (n : Nat) : (1 : Int) ≤ 2 ^ n := p2 (Nat.zero_le n)
theorem p2s (n : Nat) : (2 : Int) ^ (n + 1) = 2 * 2 ^ n := by rw [Int.pow_succ, Int.mul_comm]
theorem shl_n (x : Int) (n : Nat) (hn : n ≤ 64) (h0 : 0 ≤ x * 2 ^ n) (h1 : x * 2 ^ n < 9223372036854775808) : shl .i64 x (n : Int) = x * 2 ^ n := by
  unfold shl
  rw [IntKind.wrap_i64, Int.toNat_natCast, Nat.min_eq_left (by simpa [IntKind.bits] using hn)]
  omega
theorem shr_n (x : Int) (n : Nat) (hn : n ≤ 64) : shr .i64 x (n : Int) = x / 2 ^ n := by
  unfold shr
  rw [Int.toNat_natCast, Nat.min_eq_left (by simpa [IntKind.bits] using hn)]
theorem w64 {x : Int} (h0 : -9223372036854775808 ≤ x) (h1 : x < 9223372036854775808) : wrap64 x = x := by unfold wrap64; omega
/-- n is the length of x in bits. -/
def LenIs (n : Nat) (x : Int) : Prop := (2 : Int) ^ n ≤ 2 * x ∧ x < 2 ^ n
theorem tab0 : ∀ x : Fin 256, 1 ≤ x.val → bt (⟨#[0, 1, 2, 2, 3, 3, 3, 3, 4, 4, 4, 4, 4, 4, 4, 4, 5, 5, 5, 5, 5, 5, 5, 5, 5, 5, 5, 5, 5, 5, 5, 5, 6, 6, 6, 6, 6, 6, 6, 6, 6, 6, 6, 6, 6, 6, 6, 6, 6, 6, 6, 6, 6, 6, 6, 6, 6, 6, 6, 6, 6, 6, 6, 6, 7, 7, 7, 7, 7, 7, 7, 7, 7, 7, 7, 7, 7, 7, 7, 7, 7, 7, 7, 7, 7, 7, 7, 7, 7, 7, 7, 7, 7, 7, 7, 7, 7, 7, 7, 7, 7, 7, 7, 7, 7, 7, 7, 7, 7, 7, 7, 7, 7, 7, 7, 7, 7, 7, 7, 7, 7, 7, 7, 7, 7, 7, 7, 7, 8, 8, 8, 8, 8, 8, 8, 8, 8, 8, 8, 8, 8, 8, 8, 8, 8, 8, 8, 8, 8, 8, 8, 8, 8, 8, 8, 8, 8, 8, 8, 8, 8, 8, 8, 8, 8, 8, 8, 8, 8, 8, 8, 8, 8, 8, 8, 8, 8, 8, 8, 8, 8, 8, 8, 8, 8, 8, 8, 8, 8, 8, 8, 8, 8, 8, 8, 8, 8, 8, 8, 8, 8, 8, 8, 8, 8, 8, 8, 8, 8, 8, 8, 8, 8, 8, 8, 8, 8, 8, 8, 8, 8, 8, 8, 8, 8, 8, 8, 8, 8, 8, 8, 8, 8, 8, 8, 8, 8, 8, 8, 8, 8, 8, 8, 8, 8, 8, 8, 8, 8, 8, 8, 8, 8, 8, 8, 8]⟩ : ByteArray) (x.val : Int) = (((bt (⟨#[0, 1, 2, 2, 3, 3, 3, 3, 4, 4, 4, 4, 4, 4, 4, 4, 5, 5, 5, 5, 5, 5, 5, 5, 5, 5, 5, 5, 5, 5, 5, 5, 6, 6, 6, 6, 6, 6, 6, 6, 6, 6, 6, 6, 6, 6, 6, 6, 6, 6, 6, 6, 6, 6, 6, 6, 6, 6, 6, 6, 6, 6, 6, 6, 7, 7, 7, 7, 7, 7, 7, 7, 7, 7, 7, 7, 7, 7, 7, 7, 7, 7, 7, 7, 7, 7, 7, 7, 7, 7, 7, 7, 7, 7, 7, 7, 7, 7, 7, 7, 7, 7, 7, 7, 7, 7, 7, 7, 7, 7, 7, 7, 7, 7, 7, 7, 7, 7, 7, 7, 7, 7, 7, 7, 7, 7, 7, 7, 8, 8, 8, 8, 8, 8, 8, 8, 8, 8, 8, 8, 8, 8, 8, 8, 8, 8, 8, 8, 8, 8, 8, 8, 8, 8, 8, 8, 8, 8, 8, 8, 8, 8, 8, 8, 8, 8, 8, 8, 8, 8, 8, 8, 8, 8, 8, 8, 8, 8, 8, 8, 8, 8, 8, 8, 8, 8, 8, 8, 8, 8, 8, 8, 8, 8, 8, 8, 8, 8, 8, 8, 8, 8, 8, 8, 8, 8, 8, 8, 8, 8, 8, 8, 8, 8, 8, 8, 8, 8, 8, 8, 8, 8, 8, 8, 8, 8, 8, 8, 8, 8, 8, 8, 8, 8, 8, 8, 8, 8, 8, 8, 8, 8, 8, 8, 8, 8, 8, 8, 8, 8, 8, 8, 8, 8, 8, 8]⟩ : ByteArray) (x.val : Int)).toNat : Nat) : Int) ∧ (bt (⟨#[0, 1, 2, 2, 3, 3, 3, 3, 4, 4, 4, 4, 4, 4, 4, 4, 5, 5, 5, 5, 5, 5, 5, 5, 5, 5, 5, 5, 5, 5, 5, 5, 6, 6, 6, 6, 6, 6, 6, 6, 6, 6, 6, 6, 6, 6, 6, 6, 6, 6, 6, 6, 6, 6, 6, 6, 6, 6, 6, 6, 6, 6, 6, 6, 7, 7, 7, 7, 7, 7, 7, 7, 7, 7, 7, 7, 7, 7, 7, 7, 7, 7, 7, 7, 7, 7, 7, 7, 7, 7, 7, 7, 7, 7, 7, 7, 7, 7, 7, 7, 7, 7, 7, 7, 7, 7, 7, 7, 7, 7, 7, 7, 7, 7, 7, 7, 7, 7, 7, 7, 7, 7, 7, 7, 7, 7, 7, 7, 8, 8, 8, 8, 8, 8, 8, 8, 8, 8, 8, 8, 8, 8, 8, 8, 8, 8, 8, 8, 8, 8, 8, 8, 8, 8, 8, 8, 8, 8, 8, 8, 8, 8, 8, 8, 8, 8, 8, 8, 8, 8, 8, 8, 8, 8, 8, 8, 8, 8, 8, 8, 8, 8, 8, 8, 8, 8, 8, 8, 8, 8, 8, 8, 8, 8, 8, 8, 8, 8, 8, 8, 8, 8, 8, 8, 8, 8, 8, 8, 8, 8, 8, 8, 8, 8, 8, 8, 8, 8, 8, 8, 8, 8, 8, 8, 8, 8, 8, 8, 8, 8, 8, 8, 8, 8, 8, 8, 8, 8, 8, 8, 8, 8, 8, 8, 8, 8, 8, 8, 8, 8, 8, 8, 8, 8, 8, 8]⟩ : ByteArray) (x.val : Int)).toNat ≤ 8 ∧ 2 ^ (bt (⟨#[0, 1, 2, 2, 3, 3, 3, 3, 4, 4, 4, 4, 4, 4, 4, 4, 5, 5, 5, 5, 5, 5, 5, 5, 5, 5, 5, 5, 5, 5, 5, 5, 6, 6, 6, 6, 6, 6, 6, 6, 6, 6, 6, 6, 6, 6, 6, 6, 6, 6, 6, 6, 6, 6, 6, 6, 6, 6, 6, 6, 6, 6, 6, 6, 7, 7, 7, 7, 7, 7, 7, 7, 7, 7, 7, 7, 7, 7, 7, 7, 7, 7, 7, 7, 7, 7, 7, 7, 7, 7, 7, 7, 7, 7, 7, 7, 7, 7, 7, 7, 7, 7, 7, 7, 7, 7, 7, 7, 7, 7, 7, 7, 7, 7, 7, 7, 7, 7, 7, 7, 7, 7, 7, 7, 7, 7, 7, 7, 8, 8, 8, 8, 8, 8, 8, 8, 8, 8, 8, 8, 8, 8, 8, 8, 8, 8, 8, 8, 8, 8, 8, 8, 8, 8, 8, 8, 8, 8, 8, 8, 8, 8, 8, 8, 8, 8, 8, 8, 8, 8, 8, 8, 8, 8, 8, 8, 8, 8, 8, 8, 8, 8, 8, 8, 8, 8, 8, 8, 8, 8, 8, 8, 8, 8, 8, 8, 8, 8, 8, 8, 8, 8, 8, 8, 8, 8, 8, 8, 8, 8, 8, 8, 8, 8, 8, 8, 8, 8, 8, 8, 8, 8, 8, 8, 8, 8, 8, 8, 8, 8, 8, 8, 8, 8, 8, 8, 8, 8, 8, 8, 8, 8, 8, 8, 8, 8, 8, 8, 8, 8, 8, 8, 8, 8, 8, 8]⟩ : ByteArray) (x.val : Int)).toNat ≤ 2 * x.val ∧ x.val < 2 ^ (bt (⟨#[0, 1, 2, 2, 3, 3, 3, 3, 4, 4, 4, 4, 4, 4, 4, 4, 5, 5, 5, 5, 5, 5, 5, 5, 5, 5, 5, 5, 5, 5, 5, 5, 6, 6, 6, 6, 6, 6, 6, 6, 6, 6, 6, 6, 6, 6, 6, 6, 6, 6, 6, 6, 6, 6, 6, 6, 6, 6, 6, 6, 6, 6, 6, 6, 7, 7, 7, 7, 7, 7, 7, 7, 7, 7, 7, 7, 7, 7, 7, 7, 7, 7, 7, 7, 7, 7, 7, 7, 7, 7, 7, 7, 7, 7, 7, 7, 7, 7, 7, 7, 7, 7, 7, 7, 7, 7, 7, 7, 7, 7, 7, 7, 7, 7, 7, 7, 7, 7, 7, 7, 7, 7, 7, 7, 7, 7, 7, 7, 8, 8, 8, 8, 8, 8, 8, 8, 8, 8, 8, 8, 8, 8, 8, 8, 8, 8, 8, 8, 8, 8, 8, 8, 8, 8, 8, 8, 8, 8, 8, 8, 8, 8, 8, 8, 8, 8, 8, 8, 8, 8, 8, 8, 8, 8, 8, 8, 8, 8, 8, 8, 8, 8, 8, 8, 8, 8, 8, 8, 8, 8, 8, 8, 8, 8, 8, 8, 8, 8, 8, 8, 8, 8, 8, 8, 8, 8, 8, 8, 8, 8, 8, 8, 8, 8, 8, 8, 8, 8, 8, 8, 8, 8, 8, 8, 8, 8, 8, 8, 8, 8, 8, 8, 8, 8, 8, 8, 8, 8, 8, 8, 8, 8, 8, 8, 8, 8, 8, 8, 8, 8, 8, 8, 8, 8, 8, 8]⟩ : ByteArray) (x.val : Int)).toNat := by decide +kernel
theorem tab (x : Int) (h1 : 1 ≤ x) (h2 : x < 256) : ∃ n : Nat, n ≤ 8 ∧ bt (⟨#[0, 1, 2, 2, 3, 3, 3, 3, 4, 4, 4, 4, 4, 4, 4, 4, 5, 5, 5, 5, 5, 5, 5, 5, 5, 5, 5, 5, 5, 5, 5, 5, 6, 6, 6, 6, 6, 6, 6, 6, 6, 6, 6, 6, 6, 6, 6, 6, 6, 6, 6, 6, 6, 6, 6, 6, 6, 6, 6, 6, 6, 6, 6, 6, 7, 7, 7, 7, 7, 7, 7, 7, 7, 7, 7, 7, 7, 7, 7, 7, 7, 7, 7, 7, 7, 7, 7, 7, 7, 7, 7, 7, 7, 7, 7, 7, 7, 7, 7, 7, 7, 7, 7, 7, 7, 7, 7, 7, 7, 7, 7, 7, 7, 7, 7, 7, 7, 7, 7, 7, 7, 7, 7, 7, 7, 7, 7, 7, 8, 8, 8, 8, 8, 8, 8, 8, 8, 8, 8, 8, 8, 8, 8, 8, 8, 8, 8, 8, 8, 8, 8, 8, 8, 8, 8, 8, 8, 8, 8, 8, 8, 8, 8, 8, 8, 8, 8, 8, 8, 8, 8, 8, 8, 8, 8, 8, 8, 8, 8, 8, 8, 8, 8, 8, 8, 8, 8, 8, 8, 8, 8, 8, 8, 8, 8, 8, 8, 8, 8, 8, 8, 8, 8, 8, 8, 8, 8, 8, 8, 8, 8, 8, 8, 8, 8, 8, 8, 8, 8, 8, 8, 8, 8, 8, 8, 8, 8, 8, 8, 8, 8, 8, 8, 8, 8, 8, 8, 8, 8, 8, 8, 8, 8, 8, 8, 8, 8, 8, 8, 8, 8, 8, 8, 8, 8, 8]⟩ : ByteArray) x = (n : Int) ∧ LenIs n x := by
  obtain ⟨y, rfl⟩ := Int.eq_ofNat_of_zero_le (by omega : 0 ≤ x)
  have h := tab0 ⟨y, by omega⟩ (by show 1 ≤ y; omega)
  refine ⟨_, h.2.1, h.1, ?_, ?_⟩
  · have := h.2.2.1; exact_mod_cast this
  · have := h.2.2.2; exact_mod_cast this
theorem len_up {n : Nat} {x : Int} (h : LenIs n (x / 256)) : LenIs (n + 8) x := by
  obtain ⟨h1, h2⟩ := h
  have e : (2 : Int) ^ (n + 8) = 2 ^ n * 256 := Int.pow_add 2 n 8
  exact ⟨by rw [e]; omega, by rw [e]; omega⟩
theorem len_up2 {n : Nat} {x : Int} (h : LenIs n (x / 65536)) : LenIs (n + 16) x := by
  obtain ⟨h1, h2⟩ := h
  have e : (2 : Int) ^ (n + 16) = 2 ^ n * 65536 := Int.pow_add 2 n 16
  exact ⟨by rw [e]; omega, by rw [e]; omega⟩
theorem len_up4 {n : Nat} {x : Int} (h : LenIs n (x / 4294967296)) : LenIs (n + 32) x := by
  obtain ⟨h1, h2⟩ := h
  have e : (2 : Int) ^ (n + 32) = 2 ^ n * 4294967296 := Int.pow_add 2 n 32
  exact ⟨by rw [e]; omega, by rw [e]; omega⟩
set_option maxRecDepth 100000 in
theorem len_j (k : Nat) (x c : Int) (h1 : 1 ≤ x) (h2 : x < 4294967296) (c0 : 0 ≤ c) (c1 : c ≤ 32) : ∃ n : Nat, n ≤ 32 ∧ bits_Len64.j0 (k + 1) x c = some (c + n) ∧ LenIs n x := by
  rw [bits_Len64.j0]
  split
  · split
    · obtain ⟨n, hn, ht, hl⟩ := tab (x / 65536 / 256) (by omega) (by omega)
      rw [Int.emod_eq_of_lt (by omega) (by omega : x / 65536 / 256 < 256), if_pos (by omega), if_pos (by omega), ht]
      exact ⟨n + 8 + 16, by omega, by rw [w64 (x := (n : Int)) (by omega) (by omega), w64 (x := c + 16) (by omega) (by omega), w64 (x := c + 16 + 8) (by omega) (by omega), w64 (by omega) (by omega)]; congr 1; omega, len_up2 (len_up hl)⟩
    · obtain ⟨n, hn, ht, hl⟩ := tab (x / 65536) (by omega) (by omega)
      rw [Int.emod_eq_of_lt (by omega) (by omega : x / 65536 < 256), if_pos (by omega), if_pos (by omega), ht]
      exact ⟨n + 16, by omega, by rw [w64 (x := (n : Int)) (by omega) (by omega), w64 (x := c + 16) (by omega) (by omega), w64 (by omega) (by omega)]; congr 1; omega, len_up2 hl⟩
  · split
    · obtain ⟨n, hn, ht, hl⟩ := tab (x / 256) (by omega) (by omega)
      rw [Int.emod_eq_of_lt (by omega) (by omega : x / 256 < 256), if_pos (by omega), if_pos (by omega), ht]
      exact ⟨n + 8, by omega, by rw [w64 (x := (n : Int)) (by omega) (by omega), w64 (x := c + 8) (by omega) (by omega), w64 (by omega) (by omega)]; congr 1; omega, len_up hl⟩
    · obtain ⟨n, hn, ht, hl⟩ := tab x (by omega) (by omega)
      rw [Int.emod_eq_of_lt (by omega) (by omega : x < 256), if_pos (by omega), if_pos (by omega), ht]
      exact ⟨n, by omega, by rw [w64 (x := (n : Int)) (by omega) (by omega), w64 (by omega) (by omega)], hl⟩
theorem len_ev (x : Int) (h1 : 1 ≤ x) (h2 : x ≤ 1099511627776) : ∃ n : Nat, 1 ≤ n ∧ n ≤ 41 ∧ Ev (fun k => bits_Len.f k (IntKind.u64.wrap x)) (n : Int) ∧ LenIs n x := by
  have ew : IntKind.u64.wrap x = x := by rw [IntKind.wrap_u64]; omega
  rw [ew]
  have key : ∃ n : Nat, Ev (fun k => bits_Len64.f k x) (n : Int) ∧ LenIs n x := by
    by_cases hx : x ≥ 4294967296
    · obtain ⟨n, hn, -, hl⟩ := len_j 0 (x / 4294967296) 32 (by omega) (by omega) (by omega) (by omega)
      refine ⟨n + 32, ⟨1, fun k hk => ?_⟩, len_up4 hl⟩
      obtain ⟨j, rfl⟩ : ∃ j, k = j + 1 := ⟨k - 1, by omega⟩
      obtain ⟨n', hn', e', hl'⟩ := len_j j (x / 4294967296) 32 (by omega) (by omega) (by omega) (by omega)
      show bits_Len64.f (j + 1) x = _
      rw [bits_Len64.f, if_pos hx, e']
      obtain rfl : n' = n := by
        rcases Nat.lt_trichotomy n' n with h | h | h
        · have := p2 (show n' + 1 ≤ n from h); rw [p2s] at this; have := hl.1; have := hl'.2; omega
        · exact h
        · have := p2 (show n + 1 ≤ n' from h); rw [p2s] at this; have := hl'.1; have := hl.2; omega
      congr 1; omega
    · obtain ⟨n, hn, -, hl⟩ := len_j 0 x 0 (by omega) (by omega) (by omega) (by omega)
      refine ⟨n, ⟨1, fun k hk => ?_⟩, hl⟩
      obtain ⟨j, rfl⟩ : ∃ j, k = j + 1 := ⟨k - 1, by omega⟩
      obtain ⟨n', hn', e', hl'⟩ := len_j j x 0 (by omega) (by omega) (by omega) (by omega)
      show bits_Len64.f (j + 1) x = _
      rw [bits_Len64.f, if_neg hx, e']
      obtain rfl : n' = n := by
        rcases Nat.lt_trichotomy n' n with h | h | h
        · have := p2 (show n' + 1 ≤ n from h); rw [p2s] at this; have := hl.1; have := hl'.2; omega
        · exact h
        · have := p2 (show n + 1 ≤ n' from h); rw [p2s] at this; have := hl'.1; have := hl.2; omega
      congr 1; omega
  obtain ⟨n, he, hl⟩ := key
  refine ⟨n, ?_, ?_, Ev.bind he (Ev.now _), hl⟩
  · rcases Nat.eq_zero_or_pos n with h | h
    · subst h; have := hl.2; simp at this; omega
    · exact h
  · rcases Nat.lt_or_ge 41 n with h | h
    · have := p2 (show 42 ≤ n from h); have := hl.1
      have e : (2 : Int) ^ 42 = 4398046511104 := by decide
      omega
    · exact h
/-! The reference. -/
theorem pow_loop (n : Nat) (hn : n ≤ 60) : ∀ m i : Nat, i + m = n → Ev (fun k => lookoutref12_power.l0 k n (2 ^ i) i) ((2 : Int) ^ n)
  | 0, i, h => by
    obtain rfl : i = n := by omega
    exact Ev.step (fun k => by rw [lookoutref12_power.l0, if_neg (by omega)]) (Ev.now _)
  | m + 1, i, h => by
    have h1 := p2 (show i ≤ 60 by omega)
    have h2 := p2p i
    have e : (2 : Int) ^ 60 = 1152921504606846976 := by decide
    refine Ev.step (f := fun k => lookoutref12_power.l0 k n (2 ^ (i + 1)) ((i + 1 : Nat) : Int)) (fun k => ?_) (pow_loop n hn m (i + 1) (by omega))
    rw [lookoutref12_power.l0, if_pos (by omega), w64 (by omega) (by omega), w64 (by omega) (by omega), p2s]
    rfl
theorem pow_ev (n : Nat) (hn : n ≤ 60) : Ev (fun k => lookoutref12_power.f k (n : Int)) ((2 : Int) ^ n) := by
  have := pow_loop n hn n 0 (by omega)
  exact Ev.congr (fun k => rfl) this
theorem tdiv2 {x : Int} (h : 0 ≤ x) : Int.tdiv x 2 = x / 2 := by rw [Int.tdiv_eq_ediv_of_nonneg h]
theorem div_pow (x : Int) (m : Nat) : x / 2 / 2 ^ m = x / 2 ^ (m + 1) := by rw [p2s, Int.ediv_ediv_of_nonneg (by decide)]
theorem idx_loop (p : Nat) (hp : p ≤ 8) : ∀ (m k : Nat) (v : Int), 0 ≤ v → v ≤ 1099511627776 → k + m ≤ 60 → v < 2 ^ (p + 1 + m) → (m = 0 ∨ 2 ^ (p + m) ≤ v) → Ev (fun n => lookoutref12_index.l0 n p k v) (((k + m : Nat) : Int) * 2 ^ p + v / 2 ^ m)
  | 0, k, v, v0, v1, hk, h1, h2 => by
    have b1 := p2 hp
    have b0 := p2p p
    have e8 : (2 : Int) ^ 8 = 256 := by decide
    have hkm : (k : Int) * 2 ^ p ≤ 60 * 2 ^ p := Int.mul_le_mul_of_nonneg_right (by omega) (by omega)
    have hk0 : 0 ≤ (k : Int) * 2 ^ p := Int.mul_nonneg (by omega) (by omega)
    have h1 : v < 2 * 2 ^ p := by rw [← p2s]; exact h1
    refine Ev.step (f := fun n => _) (fun n => by rw [lookoutref12_index.l0]) ?_
    refine Ev.bind (pow_ev p (by omega)) ?_
    refine Ev.congr (fun n => by rw [if_neg (by rw [w64 (by omega) (by omega)]; omega)]) ?_
    refine Ev.bind (pow_ev p (by omega)) ?_
    refine Ev.congr (fun n => by rw [w64 (x := (k : Int) * 2 ^ p) (by omega) (by omega), w64 (by omega) (by omega)]) ?_
    rw [Int.pow_zero, Int.ediv_one]
    exact Ev.now _
  | m + 1, k, v, v0, v1, hk, h1, h2 => by
    have b1 := p2 hp
    have b0 := p2p p
    have e8 : (2 : Int) ^ 8 = 256 := by decide
    have h2 : (2 : Int) ^ (p + (m + 1)) ≤ v := by rcases h2 with h | h; exact absurd h (by omega); exact h
    have h3 : (2 : Int) ^ (p + 1) ≤ 2 ^ (p + (m + 1)) := p2 (by omega)
    rw [p2s] at h3
    have h4 : (2 : Int) ^ (p + 1 + (m + 1)) = 2 * 2 ^ (p + 1 + m) := p2s _
    have h5 : (2 : Int) ^ (p + (m + 1)) = 2 * 2 ^ (p + m) := p2s _
    refine Ev.step (f := fun n => _) (fun n => by rw [lookoutref12_index.l0]) ?_
    refine Ev.bind (pow_ev p (by omega)) ?_
    refine Ev.congr (fun n => by rw [if_pos (by rw [w64 (by omega) (by omega)]; omega), w64 (x := (k : Int) + 1) (by omega) (by omega), tdiv2 v0, w64 (by omega) (by omega)]) ?_
    have := idx_loop p hp m (k + 1) (v / 2) (by omega) (by omega) (by omega) (by omega) (.inr (by omega))
    rw [div_pow] at this
    have e : k + 1 + m = k + (m + 1) := by omega
    rw [e] at this
    exact this
theorem ix_both (p : Nat) (hp : p ≤ 8) (v : Int) (v0 : 0 ≤ v) (v1 : v ≤ 1099511627776) : ∃ r : Int, Ev (fun k => loghist_index.f k p v) r ∧ Ev (fun k => lookoutref12_index.f k p v) r ∧
    (v < 2 ^ p ∧ r = v ∨ ∃ k : Nat, k + p ≤ 40 ∧ 2 ^ (p + k) ≤ v ∧ v < 2 ^ (p + k + 1) ∧ r = (k : Int) * 2 ^ p + v / 2 ^ k) := by
  have b1 := p2 hp
  have b0 := p2p p
  have e8 : (2 : Int) ^ 8 = 256 := by decide
  have hs : shl .i64 1 (p : Int) = 2 ^ p := by rw [shl_n 1 p (by omega) (by omega) (by omega), Int.one_mul]
  by_cases hv : v < 2 ^ p
  · refine ⟨v, ?_, ?_, .inl ⟨hv, rfl⟩⟩
    · exact Ev.congr (fun k => by rw [loghist_index.f, if_pos (by omega), hs, if_pos hv]) (Ev.now _)
    · have := idx_loop p hp 0 0 v v0 v1 (by omega) (by rw [Nat.add_zero, p2s]; omega) (.inl rfl)
      have e : ((0 + 0 : Nat) : Int) * 2 ^ p + v / 2 ^ 0 = v := by rw [Int.pow_zero, Int.ediv_one]; simp
      rw [e] at this
      exact this
  · obtain ⟨n, n1, n2, he, hl⟩ := len_ev v (by omega) v1
    have hpn : p + 1 ≤ n := by
      rcases Nat.lt_or_ge p n with h | h
      · exact h
      · have := p2 h; have := hl.2; omega
    obtain ⟨k, rfl⟩ : ∃ k, n = p + k + 1 := ⟨n - p - 1, by omega⟩
    have hk1 : (2 : Int) ^ (p + k) ≤ v := by have := hl.1; rw [p2s] at this; omega
    have hk2 : v < 2 ^ (p + k + 1) := hl.2
    have q0 : 0 ≤ v / 2 ^ k := Int.ediv_nonneg v0 (by have := p2p k; omega)
    have q1 : v / 2 ^ k ≤ v := Int.ediv_le_self _ v0
    have hkm : (k : Int) * 2 ^ p ≤ 60 * 2 ^ p := Int.mul_le_mul_of_nonneg_right (by omega) (by omega)
    have hk0 : 0 ≤ (k : Int) * 2 ^ p := Int.mul_nonneg (by omega) (by omega)
    refine ⟨(k : Int) * 2 ^ p + v / 2 ^ k, ?_, ?_, .inr ⟨k, by omega, hk1, hk2, rfl⟩⟩
    · refine Ev.congr (fun j => by rw [loghist_index.f, if_pos (by omega), hs, if_neg hv]) ?_
      refine Ev.bind he ?_
      have ek : wrap64 (wrap64 (((p + k + 1 : Nat) : Int) - 1) - (p : Int)) = (k : Int) := by rw [w64 (x := ((p + k + 1 : Nat) : Int) - 1) (by omega) (by omega), w64 (by omega) (by omega)]; omega
      refine Ev.congr (fun j => by rw [ek, if_pos (by omega), shl_n _ _ (by omega) hk0 (by omega), shr_n _ _ (by omega), w64 (by omega) (by omega)]) (Ev.now _)
    · have := idx_loop p hp k 0 v v0 v1 (by omega) (by rw [show p + 1 + k = p + k + 1 by omega]; exact hk2) (.inr hk1)
      rw [Nat.zero_add] at this
      exact this
end Go.Proofs.Ytclgfbhkmhhenaa.HK
