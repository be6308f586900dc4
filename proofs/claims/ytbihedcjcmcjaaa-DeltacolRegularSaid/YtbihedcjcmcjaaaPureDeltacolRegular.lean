/- Times at equal distances, and equal values, have short encodings. No condition beyond those in the statement. -/
import Derived.Test.YtbihedcjcmcjaaaAw
import Derived.Test.YtbihedcjcmcjaaaKK
import Derived.Test.YtbihedcjcmcjaaaPx13
namespace Go.Proofs.Ytbihedcjcmcjaaa.Pure
open Go.RowKit Go.Proofs.Ytbihedcjcmcjaaa.P Go.Proofs.Ytbihedcjcmcjaaa.C Go.Proofs.Ytbihedcjcmcjaaa.A Go.Proofs.Ytbihedcjcmcjaaa.Hand Go.Proofs.YtbihedcjcmcjaaaW.PrintWords Go.Proofs.YtbihedcjcmcjaaaW.PrintLast Go.Proofs.YtbihedcjcmcjaaaW.PrintMore Go.Proofs.Ytbihedcjcmcjaaa.VB Go.Proofs.Ytbihedcjcmcjaaa.DB
set_option linter.unusedVariables false
set_option linter.unusedSimpArgs false
theorem cast1 {a b c : Nat} (h : a ≤ b + c + 18) (hb : b ≤ 9) (hc : c ≤ 9) : (a : Int) ≤ wrap64 (wrap64 ((b : Int) + (c : Int)) + 18) := by unfold wrap64; omega
theorem cast2 {a b : Nat} (h : a ≤ b + 18) (hb : b ≤ 9) : (a : Int) ≤ wrap64 ((b : Int) + 18) := by unfold wrap64; omega
theorem str_ne {l : List Int} (h : 0 < l.length) : ¬ (strOfNums l).toList = ([] : List UInt8) := by
  rw [Go.ByteArray.toList_eq]
  intro e
  have e2 := congrArg List.length e
  have e3 := str_size l
  have e4 : (strOfNums l).data.toList.length = (strOfNums l).size := by simp
  rw [e4, e3] at e2
  rw [e2] at h
  exact absurd h (by decide)
def ap (f d : Int) : Nat → List Int
  | 0 => []
  | n + 1 => f :: ap (f + d) d n
theorem ap_snoc : ∀ (n : Nat) (f d : Int), ap f d (n + 1) = ap f d n ++ [f + (n : Int) * d]
  | 0, f, d => by simp [ap]
  | n + 1, f, d => by
    have h := ap_snoc n (f + d) d
    rw [ap, h, ap, List.cons_append]
    congr 2
    congr 1
    have : ((n + 1 : Nat) : Int) * d = (n : Int) * d + d := by rw [Int.natCast_add, Int.add_mul]; simp
    omega
theorem ap_len : ∀ (n : Nat) (f d : Int), (ap f d n).length = n
  | 0, _, _ => rfl
  | n + 1, f, d => by simp [ap, ap_len n]
theorem ap_in : ∀ (n : Nat) (f d b : Int), 0 ≤ d → d ≤ b → ∀ x ∈ ap f d n, f ≤ x ∧ x ≤ f + b * (n : Int)
  | 0, f, d, b, _, _, x, hx => by simp [ap] at hx
  | n + 1, f, d, b, h0, hb, x, hx => by
    have e : b * ((n + 1 : Nat) : Int) = b * (n : Int) + b := by rw [Int.natCast_add, Int.mul_add]; simp
    have hp : 0 ≤ b * (n : Int) := Int.mul_nonneg (by omega) (by omega)
    rcases List.mem_cons.1 hx with rfl | hx
    · omega
    · have := ap_in n (f + d) d b h0 hb x hx; omega
theorem ap_so : ∀ (n : Nat) (f d : Int), 1 ≤ d → (ap f d n).Pairwise (· < ·)
  | 0, _, _, _ => List.Pairwise.nil
  | n + 1, f, d, h => List.pairwise_cons.2 ⟨fun x hx => by have := ap_in n (f + d) d d (by omega) (Int.le_refl _) x hx; omega, ap_so n (f + d) d h⟩
theorem ap_diff : ∀ (n : Nat) (f d : Int), diffL (ap f d n) = List.replicate (n - 1) d
  | 0, _, _ => rfl
  | 1, _, _ => rfl
  | n + 2, f, d => by
    have h := ap_diff (n + 1) (f + d) d
    rw [ap, ap, diffL, show (f + d) :: ap (f + d + d) d n = ap (f + d) d (n + 1) from rfl, h, show f + d - f = d by omega]
    rfl
theorem rep_diff : ∀ (n : Nat) (c : Int), diffL (List.replicate n c) = List.replicate (n - 1) 0
  | 0, _ => rfl
  | 1, _ => rfl
  | n + 2, c => by
    have h := rep_diff (n + 1) c
    rw [List.replicate_succ, List.replicate_succ, diffL, ← List.replicate_succ, h, Int.sub_self]
    rfl
theorem eqN_rep (c : Int) : ∀ m : Nat, eqN c (List.replicate m c) = m
  | 0 => rfl
  | m + 1 => by rw [List.replicate_succ, eqN, if_pos rfl, eqN_rep c m]
theorem runB_rep (m : Nat) (h : m ≤ 500) : (runB (runL (List.replicate m 0))).length ≤ 3 := by
  cases m with
  | zero => simp [runL_nil, runB]
  | succ m =>
    have hg := G_len 1 (m + 1) (by omega)
    have h0 : (G (zig 0)).length = 1 := (G_one _).2 (by decide)
    rw [List.replicate_succ, runL_cons, eqN_rep, List.drop_eq_nil_of_le (by simp), runL_nil, runB_cons]
    simp only [runB, List.flatMap_nil, List.append_nil, List.length_append, Int.toNat_natCast]
    omega
set_option maxHeartbeats 2000000 in
theorem DeltacolRegular : lookoutlaw09_DeltacolRegular.Pure := by
  intro f d m hf hd hm
  refine Ev.rounds ?_
  have hm' : 0 ≤ m ∧ m < 65536 := by simp [Lit.wf, IntKind.min, IntKind.max, IntKind.signed, IntKind.bits] at hm; omega
  have jt : Ev (fun k => lookoutlaw09_DeltacolRegular.j0 k f d m true) true := Ev.step (fun k => by rw [lookoutlaw09_DeltacolRegular.j0, if_pos rfl]) awake_end
  by_cases h1 : f < 1
  · exact Ev.congr (fun k => by rw [lookoutlaw09_DeltacolRegular.f, if_pos h1]) jt
  by_cases h2 : f > 1073741824
  · exact Ev.congr (fun k => by rw [lookoutlaw09_DeltacolRegular.f, if_neg h1, if_pos h2]) jt
  by_cases h3 : d < 1
  · exact Ev.congr (fun k => by rw [lookoutlaw09_DeltacolRegular.f, if_neg h1, if_neg h2, if_pos h3]) jt
  by_cases h4 : d > 1048576
  · exact Ev.congr (fun k => by rw [lookoutlaw09_DeltacolRegular.f, if_neg h1, if_neg h2, if_neg h3, decide_eq_true h4]) jt
  refine Ev.congr (f := fun k => lookoutlaw09_DeltacolRegular.j0 k f d m false) (fun k => by rw [lookoutlaw09_DeltacolRegular.f, if_neg h1, if_neg h2, if_neg h3, decide_eq_false h4]) ?_
  obtain ⟨n, hn, hn5⟩ : ∃ n : Nat, Int.tmod (wrap64 m) 501 = (n : Int) ∧ n ≤ 500 := by
    have e : wrap64 m = m := by unfold wrap64; omega
    rw [e, Int.tmod_eq_emod_of_nonneg hm'.1]
    exact ⟨(m % 501).toNat, by omega, by omega⟩
  have hTV : TV (ap f d n) := ⟨by rw [ap_len]; omega, fun x hx => by have := ap_in n f d 1048576 (by omega) (by omega) x hx; omega, ap_so n f d (by omega)⟩
  have ht := encodeTimes_ok hTV
  have hv : Ev (fun k => deltacol_EncodeValues.f k (List.replicate n f)) (strOfNums (valuesB (List.replicate n f)), 0) := by
    rcases encodeValues_ex (List.replicate n f) (by simp; omega) with ⟨_, h⟩ | ⟨h, _⟩
    · exact h
    · exact absurd (fun x hx => by obtain rfl := (List.mem_replicate.1 hx).2; omega) h
  have ha := appendSigned_ev ⟨#[]⟩ f (by show 0 ≤ 4611686018427387904; omega)
  have hb := appendSigned_ev ⟨#[]⟩ d (by show 0 ≤ 4611686018427387904; omega)
  rw [show AS ⟨#[]⟩ f = (strOfNums (G (zig f)), 0) by unfold AS; rw [if_pos (by omega), empty_append]] at ha
  rw [show AS ⟨#[]⟩ d = (strOfNums (G (zig d)), 0) by unfold AS; rw [if_pos (by omega), empty_append]] at hb
  have zf := zig_len (x := f) ⟨by omega, by omega⟩
  have zd := zig_len (x := d) ⟨by omega, by omega⟩
  have gn := G_len 1 n (by omega)
  have gp := G_pos n
  have sz1 : (timesB (ap f d n)).length ≤ (G (zig f)).length + (G (zig d)).length + 18 ∧ 0 < (timesB (ap f d n)).length := by
    unfold timesB
    rw [ap_len]
    by_cases hn2 : n < 2
    · rw [if_pos hn2]
      unfold encB
      rw [runL_nil, show runB [] = [] from rfl, List.append_nil, List.length_append, Int.toNat_natCast]
      have : (ZL (ap f d n)).length ≤ (G (zig f)).length := by
        match n, hn2 with
        | 0, _ => simp [ap, ZL]
        | 1, _ => simp [ap, ZL]
      omega
    · rw [if_neg hn2]
      obtain ⟨q, rfl⟩ : ∃ q, n = q + 2 := ⟨n - 2, by omega⟩
      have e1 : rd (ap f d (q + 2)) 0 = f := rfl
      have e2 : rd (diffL (ap f d (q + 2))) 0 = d := by rw [ap_diff]; rfl
      have hr := runB_rep q (by omega)
      unfold encB
      rw [e1, e2, ap_diff, rep_diff, show q + 2 - 1 - 1 = q by omega, List.length_append, List.length_append, Int.toNat_natCast]
      have : (ZL [f, d]).length = (G (zig f)).length + (G (zig d)).length := by simp [ZL]
      omega
  have sz2 : (valuesB (List.replicate n f)).length ≤ (G (zig f)).length + 18 := by
    unfold valuesB encB
    have hr := runB_rep (n - 1) (by omega)
    rw [rep_diff, List.length_append, List.length_append, List.length_replicate, Int.toNat_natCast]
    have : (ZL ((List.replicate n f).take 1)).length ≤ (G (zig f)).length := by
      cases n with
      | zero => simp [ZL]
      | succ n => simp [List.replicate_succ, ZL]
    omega
  have c1 : ((strOfNums (timesB (ap f d n))).size : Int) ≤ wrap64 (wrap64 (((strOfNums (G (zig f))).size : Int) + ((strOfNums (G (zig d))).size : Int)) + 18) := by
    rw [str_size, str_size, str_size]
    exact cast1 sz1.1 zf zd
  have c2 : ((strOfNums (valuesB (List.replicate n f))).size : Int) ≤ wrap64 (((strOfNums (G (zig f))).size : Int) + 18) := by
    rw [str_size, str_size]
    exact cast2 sz2 zf
  have c3 := str_ne sz1.2
  clear sz1 sz2
  generalize timesB (ap f d n) = tB at *
  generalize valuesB (List.replicate n f) = vB at *
  have loop : ∀ (q i : Nat), i + q = n → Ev (fun k => lookoutlaw09_DeltacolRegular.l0 k f d (ap f d i) (List.replicate i f) (n : Int) (i : Int)) true := by
    intro q
    induction q with
    | zero =>
      intro i h
      obtain rfl : i = n := by omega
      refine Ev.step (fun k => by rw [lookoutlaw09_DeltacolRegular.l0, if_neg (by omega)]) ?_
      refine Ev.bind ha ?_
      refine Ev.bind hb ?_
      refine Ev.bind ht ?_
      refine Ev.bind hv ?_
      dsimp only
      simp only [if_pos c1, if_pos c2, if_neg c3, if_true]
      exact awake_end
    | succ q ih =>
      intro i h
      have hs := ih (i + 1) (by omega)
      have hp : 0 ≤ (i : Int) * d ∧ (i : Int) * d ≤ 500 * 1048576 := ⟨Int.mul_nonneg (by omega) (by omega), Int.mul_le_mul (by omega) (by omega) (by omega) (by omega)⟩
      have e1 : wrap64 ((i : Int) * d) = (i : Int) * d := by unfold wrap64; omega
      have e2 : wrap64 (f + (i : Int) * d) = f + (i : Int) * d := by unfold wrap64; omega
      rw [ap_snoc, List.replicate_succ'] at hs
      exact Ev.step (fun k => by rw [lookoutlaw09_DeltacolRegular.l0, if_pos (by omega), if_pos (by rw [ap_len]; omega), if_pos (by simp; omega), e1, e2, w1 (by omega)]) hs
  have h0 := loop n 0 (by omega)
  exact Ev.step (fun k => by rw [lookoutlaw09_DeltacolRegular.j0, if_neg (by decide), hn]; rfl) h0
end Go.Proofs.Ytbihedcjcmcjaaa.Pure
