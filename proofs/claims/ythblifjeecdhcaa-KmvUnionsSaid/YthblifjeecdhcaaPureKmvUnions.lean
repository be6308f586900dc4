/- Merging the sketches of two lists yields the sketch of both. No condition beyond those in the statement. -/
import Derived.Test.YthblifjeecdhcaaKD
import Derived.Test.YthblifjeecdhcaaHX
import Derived.Test.YthblifjeecdhcaaPx39
import Derived.Test.YthblifjeecdhcaaPx40
namespace Go.Proofs.Ythblifjeecdhcaa.Pure
open Go.RowKit Go.Proofs.Ythblifjeecdhcaa.P Go.Proofs.Ythblifjeecdhcaa.A Go.Proofs.Ythblifjeecdhcaa.Hand Go.Proofs.YthblifjeecdhcaaW.PrintWords Go.Proofs.YthblifjeecdhcaaW.PrintLast Go.Proofs.YthblifjeecdhcaaW.PrintMore Go.Proofs.Ythblifjeecdhcaa.KB
set_option linter.unusedVariables false
theorem concat_ev (m l : List ByteArray) (hm : m.length ≤ 40) (hl : l.length ≤ 40) : Ev (fun k => slices_Concat_string_string.f k [m, l]) (m ++ l) := by
  have r0 : rd_L5 [m, l] ((0 : Nat) : Int) = m := rfl
  have r1 : rd_L5 [m, l] ((1 : Nat) : Int) = l := rfl
  have hlen : (([m, l] : List (List ByteArray)).length : Int) = 2 := rfl
  unfold slices_Concat_string_string.f
  rw [hlen]
  have e0 : wrap64 (0 + (m.length : Int)) = (m.length : Int) := by unfold wrap64; omega
  have e1 : wrap64 ((m.length : Int) + (l.length : Int)) = (m.length : Int) + (l.length : Int) := by unfold wrap64; omega
  refine Ev.step (fun k => by rw [slices_Concat_string_string.l0, if_pos (by omega), if_pos (by omega), if_pos (by rw [hlen]; omega), show rd_L5 [m, l] 0 = m from rfl, e0, if_neg (by omega), show wrap64 ((0 : Int) + 1) = 1 by unfold wrap64; omega]) ?_
  refine Ev.step (fun k => by rw [slices_Concat_string_string.l0, if_pos (by omega), if_pos (by omega), if_pos (by rw [hlen]; omega), show rd_L5 [m, l] 1 = l from rfl, e1, if_neg (by omega), show wrap64 ((1 : Int) + 1) = 2 by unfold wrap64; omega]) ?_
  refine Ev.step (fun k => by rw [slices_Concat_string_string.l0, if_neg (by omega), grow_nil.f, if_pos ⟨by omega, by omega⟩, Option.bind_some, hlen]) ?_
  refine Ev.step (fun k => by rw [slices_Concat_string_string.l1, if_pos (by omega), if_pos (by omega), if_pos (by rw [hlen]; omega), show rd_L5 [m, l] 0 = m from rfl, if_pos (by simp; omega), show wrap64 ((0 : Int) + 1) = 1 by unfold wrap64; omega, List.nil_append]) ?_
  refine Ev.step (fun k => by rw [slices_Concat_string_string.l1, if_pos (by omega), if_pos (by omega), if_pos (by rw [hlen]; omega), show rd_L5 [m, l] 1 = l from rfl, if_pos (by omega), show wrap64 ((1 : Int) + 1) = 2 by unfold wrap64; omega]) ?_
  exact Ev.step (fun k => by rw [slices_Concat_string_string.l1, if_neg (by omega)]) (Ev.now _)
theorem union_is (n : Nat) (A B : List Int) : MG n (MG n [] A) (MG n [] B) = MG n [] (A ++ B) ∧ MG n (MG n [] A) (MG n [] B) = MG n [] (B ++ A) := by
  have hA := U_so A [] List.Pairwise.nil
  have hB := U_so B [] List.Pairwise.nil
  have eA := MG_is (a := []) (n := n) (by simp) A
  have eB := MG_is (a := []) (n := n) (by simp) B
  have lA : (MG n [] A).length ≤ n := MG_len A n (by simp)
  have h1 : MG n (MG n [] A) (MG n [] B) = (U (U [] A) (U [] B)).take n := by
    rw [MG_is lA, eA, eB, take_U_left, take_U_right hA hB]
  have u1 : U (U [] A) (U [] B) = U [] (A ++ B) := so_ext _ _ (U_so _ _ hA) (U_so _ [] List.Pairwise.nil) (fun x => by simp only [U_mem, List.mem_append, List.not_mem_nil, false_or])
  have u2 : U (U [] A) (U [] B) = U [] (B ++ A) := so_ext _ _ (U_so _ _ hA) (U_so _ [] List.Pairwise.nil) (fun x => by simp only [U_mem, List.mem_append, List.not_mem_nil, false_or]; exact Or.comm)
  exact ⟨by rw [h1, u1, MG_is (by simp)], by rw [h1, u2, MG_is (by simp)]⟩
theorem KmvUnions : lookoutlaw30_KmvUnions.Pure := by
  intro l m a hl1 hl2 hw hm1 hm2 hv ha
  refine Ev.rounds ?_
  obtain ⟨a0, a1⟩ := u8_wf ha
  obtain ⟨b, hb, hb2⟩ := long_is l
  obtain ⟨c, hc, hc2⟩ := long_is m
  have hawake : Ev (fun k => lookoutlaw30_KmvUnions.j0 k l m a true) true := Ev.step (fun k => by rw [lookoutlaw30_KmvUnions.j0, if_pos rfl]) awake_end
  unfold lookoutlaw30_KmvUnions.f
  refine Ev.congr (fun k => by rw [hb, Option.bind_some, hc, Option.bind_some]) ?_
  cases b with
  | true => exact Ev.congr (fun k => if_pos rfl) hawake
  | false =>
    have h40 := hb2 rfl
    refine Ev.congr (fun k => if_neg (by simp)) ?_
    cases c with
    | true => exact hawake
    | false =>
      have m40 := hc2 rfl
      have hK : wrap64 (1 + wrap64 a) = 1 + a := by unfold wrap64; omega
      refine Ev.step (fun k => by rw [lookoutlaw30_KmvUnions.j0, if_neg (by simp), hK]) ?_
      generalize hKe : 1 + a = K at *
      have k1 : 1 ≤ K := by omega
      have k2 : K ≤ 1000 := by omega
      have hlm : (m ++ l).length = m.length + l.length := List.length_append
      have ol := of_all k1 k2 l (by omega)
      have om := of_all k1 k2 m (by omega)
      have oz := of_all k1 k2 (m ++ l) (by omega)
      have ez : hsh (m ++ l) = hsh m ++ hsh l := by simp [hsh]
      obtain ⟨u1, u2⟩ := union_is K.toNat (hsh l) (hsh m)
      obtain ⟨v1, v2⟩ := union_is K.toNat (hsh m) (hsh l)
      have nl := ol.len
      have nm := om.len
      have nz := oz.len
      refine Ev.bind (of_ev k1 k2 l (by omega) hw) ?_
      refine Ev.bind (of_ev k1 k2 m (by omega) hv) ?_
      refine Ev.bind (concat_ev m l (by omega) (by omega)) ?_
      refine Ev.bind (of_ev k1 k2 (m ++ l) (by omega) (fun x hx => (List.mem_append.1 hx).elim (hv x) (hw x))) ?_
      have e1 := merge_ev K (l.length : Int) (MG K.toNat [] (hsh l)) K (m.length : Int) (MG K.toNat [] (hsh m)) (by omega) (by omega)
      have e2 := merge_ev K (m.length : Int) (MG K.toNat [] (hsh m)) K (l.length : Int) (MG K.toNat [] (hsh l)) (by omega) (by omega)
      rw [show MERGE K (l.length : Int) (MG K.toNat [] (hsh l)) K (m.length : Int) (MG K.toNat [] (hsh m)) = (K, ((m ++ l).length : Int), MG K.toNat [] (hsh (m ++ l)), 0) by
        unfold MERGE; rw [if_pos ol, if_pos om, if_pos rfl, if_neg (by omega), u2, ez, hlm, show (l.length : Int) + (m.length : Int) = ((m.length + l.length : Nat) : Int) by omega]] at e1
      rw [show MERGE K (m.length : Int) (MG K.toNat [] (hsh m)) K (l.length : Int) (MG K.toNat [] (hsh l)) = (K, ((m ++ l).length : Int), MG K.toNat [] (hsh (m ++ l)), 0) by
        unfold MERGE; rw [if_pos om, if_pos ol, if_pos rfl, if_neg (by omega), v1, ez, hlm, show (m.length : Int) + (l.length : Int) = ((m.length + l.length : Nat) : Int) by omega]] at e2
      refine Ev.bind e1 (Ev.bind e2 ?_)
      refine Ev.congr (fun k => by rw [if_pos rfl, if_pos rfl, if_pos rfl, if_pos rfl, if_pos rfl]) ?_
      have hs := same30 K ((m ++ l).length : Int) (MG K.toNat [] (hsh (m ++ l))) (by omega)
      refine Ev.bind hs ?_
      refine Ev.congr (fun k => if_pos rfl) ?_
      refine Ev.bind hs ?_
      exact Ev.congr (fun k => if_pos rfl) awake_end
end Go.Proofs.Ythblifjeecdhcaa.Pure
