/- Plain facts on sketches: what Merge of the kmv chapter answers. No condition beyond those in the statements. -/
import Derived.Test.YthblifjeecdhcaaK
import Derived.Test.YthblifjeecdhcaaPx22
namespace Go.Proofs.Ythblifjeecdhcaa.KB
open Go.RowKit Go.Proofs.Ythblifjeecdhcaa.A Go.Proofs.Ythblifjeecdhcaa.P Go.Proofs.Ythblifjeecdhcaa.Hand Go.Proofs.YthblifjeecdhcaaW.PrintWords Go.Proofs.YthblifjeecdhcaaW.PrintLast Go.Proofs.YthblifjeecdhcaaW.PrintMore
set_option linter.unusedVariables false
set_option linter.unusedSimpArgs false
def MERGE (K C : Int) (G : List Int) (L D : Int) (H : List Int) : Int × Int × List Int × Int :=
  if OKK K C G then (if OKK L D H then (if K = L then (if 1152921504606846976 < C + D then (0, 0, [], 4) else (K, C + D, MG K.toNat G H, 0)) else (0, 0, [], 10)) else (0, 0, [], 1)) else (0, 0, [], 1)
theorem MG_step (n : Nat) (a b : List Int) (i : Nat) (h : i < b.length) : MG n a (b.take (i + 1)) = (INS (MG n a (b.take i)) b[i]).take n := by
  unfold MG
  rw [List.take_succ_eq_append_getElem h, List.foldl_append]; rfl
theorem merge_l0 (K C : Int) (G : List Int) (L D : Int) (H : List Int) (hG : OKK K C G) (hH : H.length ≤ 1000) : ∀ (d i : Nat), i + d = H.length → Ev (fun k => kmv_Merge.l0 k (MG K.toNat G (H.take i)) H (H.length : Int) (i : Int) K C G L D H) (K, wrap64 (C + D), MG K.toNat G H, 0) := by
  have h1 := hG.1; have h2 := hG.2.1
  intro d
  induction d with
  | zero => intro i h; rw [List.take_of_length_le (by omega)]; exact Ev.step (fun k => by rw [kmv_Merge.l0, if_neg (by omega)]) (Ev.now _)
  | succ d ih =>
    intro i h
    have hi : i < H.length := by omega
    have hl := MG_len (H.take i) K.toNat hG.len
    have hs := MG_so hG.so (H.take i) K.toNat hG.len
    have ins := insert_ev (MG K.toNat G (H.take i)) H[i] K (by omega) hs (by omega) hl
    rw [← MG_step K.toNat G H i hi] at ins
    refine Ev.step (fun k => by rw [kmv_Merge.l0, if_pos (by omega), if_pos (by omega), if_pos (by omega), rdI hi, w1 (by omega)]) ?_
    exact Ev.bind ins (ih (i + 1) (by omega))
theorem merge_ev (K C : Int) (G : List Int) (L D : Int) (H : List Int) (hg : G.length ≤ 17592186043904) (hh : H.length ≤ 17592186043904) : Ev (fun k => kmv_Merge.f k K C G L D H) (MERGE K C G L D H) := by
  simp only [kmv_Merge.f]
  refine Ev.bind (check_ev K C G hg) ?_
  have bad : Ev (fun k => kmv_Merge.j0 k true K C G L D H) (0, 0, [], 1) := Ev.step (fun k => by rw [kmv_Merge.j0, if_pos rfl]) (Ev.now _)
  unfold MERGE
  by_cases h : OKK K C G
  · rw [if_pos h, show CK K C G = 0 from if_pos h]
    refine Ev.congr (fun k => if_pos rfl) ?_
    refine Ev.bind (check_ev L D H hh) ?_
    by_cases h' : OKK L D H
    · rw [if_pos h', show CK L D H = 0 from if_pos h']
      refine Ev.step (fun k => by rw [kmv_Merge.j0, if_neg (by decide)]) ?_
      by_cases e : K = L
      · rw [if_pos e]
        refine Ev.congr (fun k => if_pos e) ?_
        have a1 := h.2.2.1; have a2 := h.2.2.2.1; have b1 := h'.2.2.1; have b2 := h'.2.2.2.1; have b3 := h'.len; have b4 := h'.2.1; have a3 := h.len; have a4 := h.2.1
        have hw : wrap64 (C + D) = C + D := by unfold wrap64; omega
        rw [hw]
        by_cases hc : 1152921504606846976 < C + D
        · rw [if_pos hc]; exact Ev.congr (fun k => if_pos hc) (Ev.now _)
        · rw [if_neg hc]
          have hl := merge_l0 K C G L D H h (by omega) H.length 0 (by omega)
          rw [hw] at hl
          exact Ev.congr (fun k => (if_neg hc).trans (by rw [clone_is G (by omega), Option.bind_some]; rfl)) hl
      · rw [if_neg e]; exact Ev.congr (fun k => if_neg e) (Ev.now _)
    · rw [if_neg h', show CK L D H = 1 from if_neg h']; exact bad
  · rw [if_neg h, show CK K C G = 1 from if_neg h]; exact Ev.congr (fun k => if_neg (by decide)) bad
theorem MERGE_len (K C : Int) (G : List Int) (L D : Int) (H : List Int) : (MERGE K C G L D H).2.2.1.length ≤ 1000 := by
  unfold MERGE
  split
  · rename_i h
    split
    · split
      · split
        · simp
        · have := MG_len H K.toNat h.len; have := h.2.1; dsimp only; omega
      · simp
    · simp
  · simp
end Go.Proofs.Ythblifjeecdhcaa.KB
