/- Merging of zones: its algebra. No condition beyond those in the statements. -/
import Derived.Test.YtdokabaeddaipaaK4
namespace Go.Proofs.Ytdokabaeddaipaa.K
open Go.RowKit Go.Proofs.YtdokabaeddaipaaW.PrintWords Go.Proofs.YtdokabaeddaipaaW.PrintLast Go.Proofs.YtdokabaeddaipaaW.PrintMore Go.Proofs.Ytdokabaeddaipaa.Hand Go.Proofs.Ytdokabaeddaipaa.A Go.Proofs.Ytdokabaeddaipaa.P
set_option linter.unusedVariables false
set_option linter.unusedSimpArgs false
theorem or_comm32 {x y : Int} (hx : w32 x) (hy : w32 y) : Go.bits .or .u32 x y = Go.bits .or .u32 y x := by
  rw [u32_or _ _ hx.1 hx.2 hy.1 hy.2, u32_or _ _ hy.1 hy.2 hx.1 hx.2, Nat.or_comm]
theorem or_assoc32 {x y z : Int} (hx : w32 x) (hy : w32 y) (hz : w32 z) : Go.bits .or .u32 x (Go.bits .or .u32 y z) = Go.bits .or .u32 (Go.bits .or .u32 x y) z := by
  have h1 := or_w32 y z
  have h2 := or_w32 x y
  rw [u32_or x _ hx.1 hx.2 h1.1 h1.2, u32_or _ z h2.1 h2.2 hz.1 hz.2, u32_or y z hy.1 hy.2 hz.1 hz.2, u32_or x y hx.1 hx.2 hy.1 hy.2, Int.toNat_natCast, Int.toNat_natCast, Nat.or_assoc]
def jv (a b : T13) : T13 := (mn (wrap64 (a.1 + b.1)) 1152921504606846976, mn a.2.1 b.2.1, mx a.2.2.1 b.2.2.1, mn a.2.2.2.1 b.2.2.2.1, mx a.2.2.2.2.1 b.2.2.2.2.1, Go.bits .or .u32 a.2.2.2.2.2.1 b.2.2.2.2.2.1, Go.bits .or .u32 a.2.2.2.2.2.2.1 b.2.2.2.2.2.2.1, Go.bits .or .u32 a.2.2.2.2.2.2.2.1 b.2.2.2.2.2.2.2.1, Go.bits .or .u32 a.2.2.2.2.2.2.2.2.1 b.2.2.2.2.2.2.2.2.1, Go.bits .or .u32 a.2.2.2.2.2.2.2.2.2.1 b.2.2.2.2.2.2.2.2.2.1, Go.bits .or .u32 a.2.2.2.2.2.2.2.2.2.2.1 b.2.2.2.2.2.2.2.2.2.2.1, Go.bits .or .u32 a.2.2.2.2.2.2.2.2.2.2.2.1 b.2.2.2.2.2.2.2.2.2.2.2.1, Go.bits .or .u32 a.2.2.2.2.2.2.2.2.2.2.2.2 b.2.2.2.2.2.2.2.2.2.2.2.2)
theorem join_val {a b : T13} (ha : Val a) (hb : Val b) : joinT a b = jv a b := by
  unfold joinT
  rw [val_nz ha, val_nz hb]
  rfl
theorem join_zl {a : T13} (h : zeroZ a = true) (b : T13) : joinT a b = b := by unfold joinT; rw [h, if_pos rfl]
theorem join_zr {b : T13} (h : zeroZ b = true) (a : T13) : joinT a b = a := by
  cases ha : zeroZ a with
  | true => rw [join_zl ha, zeroZ_eq h, zeroZ_eq ha]
  | false => unfold joinT; rw [ha, h]; rfl
theorem mn_comm (a b : Int) : mn a b = mn b a := by unfold mn; repeat' split
                                                    all_goals omega
theorem mx_comm (a b : Int) : mx a b = mx b a := by unfold mx; repeat' split
                                                    all_goals omega
theorem mn_assoc (a b c : Int) : mn a (mn b c) = mn (mn a b) c := by unfold mn; repeat' split
                                                                     all_goals omega
theorem mx_assoc (a b c : Int) : mx a (mx b c) = mx (mx a b) c := by unfold mx; repeat' split
                                                                     all_goals omega
theorem w_of {a : T13} (oa : okW (wds a)) : w32 a.2.2.2.2.2.1 ∧ w32 a.2.2.2.2.2.2.1 ∧ w32 a.2.2.2.2.2.2.2.1 ∧ w32 a.2.2.2.2.2.2.2.2.1 ∧ w32 a.2.2.2.2.2.2.2.2.2.1 ∧ w32 a.2.2.2.2.2.2.2.2.2.2.1 ∧ w32 a.2.2.2.2.2.2.2.2.2.2.2.1 ∧ w32 a.2.2.2.2.2.2.2.2.2.2.2.2 := by
  refine ⟨?_, ?_, ?_, ?_, ?_, ?_, ?_, ?_⟩
  all_goals exact oa.2 _ (by simp [wds])
theorem join_comm {a b : T13} (ha : chk a = 0) (hb : chk b = 0) (oa : okW (wds a)) (ob : okW (wds b)) : joinT a b = joinT b a := by
  rcases chk_val ha with za | va
  · rw [join_zl za, join_zr za]
  · rcases chk_val hb with zb | vb
    · rw [join_zl zb, join_zr zb]
    · rw [join_val va vb, join_val vb va]
      obtain ⟨a1, a2, a3, a4, a5, a6, a7, a8⟩ := w_of oa
      obtain ⟨b1, b2, b3, b4, b5, b6, b7, b8⟩ := w_of ob
      unfold jv
      rw [Int.add_comm, mn_comm a.2.1, mx_comm a.2.2.1, mn_comm a.2.2.2.1, mx_comm a.2.2.2.2.1, or_comm32 a1 b1, or_comm32 a2 b2, or_comm32 a3 b3, or_comm32 a4 b4, or_comm32 a5 b5, or_comm32 a6 b6, or_comm32 a7 b7, or_comm32 a8 b8]
theorem cnt_assoc {a b c : Int} (a0 : 1 ≤ a) (a1 : a ≤ 1152921504606846976) (b0 : 1 ≤ b) (b1 : b ≤ 1152921504606846976) (c0 : 1 ≤ c) (c1 : c ≤ 1152921504606846976) :
    mn (wrap64 (a + mn (wrap64 (b + c)) 1152921504606846976)) 1152921504606846976 = mn (wrap64 (mn (wrap64 (a + b)) 1152921504606846976 + c)) 1152921504606846976 := by
  have e : ∀ x y : Int, 1 ≤ x → x ≤ 1152921504606846976 → 1 ≤ y → y ≤ 1152921504606846976 → wrap64 (x + y) = x + y := fun x y _ _ _ _ => by unfold wrap64; omega
  have m : ∀ x y : Int, 1 ≤ x → x ≤ 1152921504606846976 → 1 ≤ y → y ≤ 1152921504606846976 → 1 ≤ mn (x + y) 1152921504606846976 ∧ mn (x + y) 1152921504606846976 ≤ 1152921504606846976 := fun x y _ _ _ _ => by
    unfold mn; split <;> omega
  rw [e b c b0 b1 c0 c1, e a b a0 a1 b0 b1, e a _ a0 a1 (m b c b0 b1 c0 c1).1 (m b c b0 b1 c0 c1).2, e _ c (m a b a0 a1 b0 b1).1 (m a b a0 a1 b0 b1).2 c0 c1]
  unfold mn
  repeat' split
  all_goals omega
theorem join_assoc {a b c : T13} (ha : chk a = 0) (hb : chk b = 0) (hc : chk c = 0) (oa : okW (wds a)) (ob : okW (wds b)) (oc : okW (wds c)) : joinT a (joinT b c) = joinT (joinT a b) c := by
  rcases chk_val ha with za | va
  · rw [join_zl za, join_zl za]
  · rcases chk_val hb with zb | vb
    · rw [join_zl zb, join_zr zb]
    · rcases chk_val hc with zc | vc
      · rw [join_zr zc, join_zr zc]
      · rw [join_val va (val_join vb vc), join_val (val_join va vb) vc, join_val vb vc, join_val va vb]
        obtain ⟨a1, a2, a3, a4, a5, a6, a7, a8⟩ := w_of oa
        obtain ⟨b1, b2, b3, b4, b5, b6, b7, b8⟩ := w_of ob
        obtain ⟨c1, c2, c3, c4, c5, c6, c7, c8⟩ := w_of oc
        have k := cnt_assoc va.c0 va.c1 vb.c0 vb.c1 vc.c0 vc.c1
        unfold jv
        simp only []
        rw [k, mn_assoc a.2.1, mx_assoc a.2.2.1, mn_assoc a.2.2.2.1, mx_assoc a.2.2.2.2.1, or_assoc32 a1 b1 c1, or_assoc32 a2 b2 c2, or_assoc32 a3 b3 c3, or_assoc32 a4 b4 c4, or_assoc32 a5 b5 c5, or_assoc32 a6 b6 c6, or_assoc32 a7 b7 c7, or_assoc32 a8 b8 c8]
theorem zz_zero : zeroZ zeroT = true := by decide
theorem zero_okW : okW (wds zeroT) := zero_ok
theorem add_join {z : T13} {n : Int} (hz : Zn z n) (hn : n < 1152921504606846976) {x : S40} (hx : elB x = true) : addT z x.f0 x.f1 x.f2 = joinT z (oneT x.f0 x.f1 x.f2) := by
  obtain ⟨h1, h2, h3, h4⟩ := el_parts hx
  unfold addT
  rw [if_pos (zn_ok hz hn h3 h4)]
theorem one_chk {x : S40} (hx : elB x = true) : chk (oneT x.f0 x.f1 x.f2) = 0 := by
  obtain ⟨h1, h2, h3, h4⟩ := el_parts hx
  exact val_chk (one_val h3 h4 x.f2)
theorem one_okW (x : S40) : okW (wds (oneT x.f0 x.f1 x.f2)) := by rw [wds_one]; exact bloom_ok x.f2
theorem of_zn {l : List S40} (hl : ∀ x ∈ l, elB x = true) (hn : l.length ≤ 1000) : Zn (ofT zeroT l) l.length := by
  have := (zn_of l zn_zero (by omega) (by omega) hl).1
  rwa [Int.zero_add] at this
theorem of_join : ∀ (l : List S40) {z : T13} {n : Int}, Zn z n → 0 ≤ n → n + l.length ≤ 1000 → (∀ x ∈ l, elB x = true) → ofT z l = joinT z (ofT zeroT l)
  | [], z, n, hz, h0, hn, hl => (join_zr zz_zero z).symm
  | x :: l, z, n, hz, h0, hn, hl => by
    have hx := hl x (by simp)
    have hl' : ∀ y ∈ l, elB y = true := fun y hy => hl y (by simp [hy])
    simp only [List.length_cons] at hn
    obtain ⟨p1, p2, p3, p4⟩ := el_parts hx
    have z1 := (zn_add hz h0 (by omega) p3 p4 x.f2).1
    have z2 := (zn_add zn_zero (by omega) (by omega) p3 p4 x.f2).1
    have e1 := of_join l z1 (by omega) (by omega) hl'
    have e2 := of_join l z2 (by omega) (by omega) hl'
    have hm := of_zn hl' (by omega)
    show ofT (addT z x.f0 x.f1 x.f2) l = joinT z (ofT (addT zeroT x.f0 x.f1 x.f2) l)
    rw [e1, e2, add_join hz (by omega) hx, add_join zn_zero (by omega) hx, join_zl zz_zero, join_assoc hz.chk (one_chk hx) hm.chk hz.ok (one_okW x) hm.ok]
theorem of_append (l m : List S40) (hl : ∀ x ∈ l, elB x = true) (hm : ∀ x ∈ m, elB x = true) (hn : l.length + m.length ≤ 1000) : ofT zeroT (l ++ m) = joinT (ofT zeroT l) (ofT zeroT m) := by
  have e : ofT zeroT (l ++ m) = ofT (ofT zeroT l) m := by unfold ofT; rw [List.foldl_append]
  rw [e]
  exact of_join m (of_zn hl (by omega)) (by omega) (by omega) hm
theorem of_one {x : S40} (hx : elB x = true) : ofT zeroT [x] = oneT x.f0 x.f1 x.f2 := by
  show addT zeroT x.f0 x.f1 x.f2 = _
  rw [add_join zn_zero (by omega) hx, join_zl zz_zero]
theorem of_reverse : ∀ (l : List S40), (∀ x ∈ l, elB x = true) → l.length ≤ 1000 → ofT zeroT l.reverse = ofT zeroT l
  | [], _, _ => rfl
  | x :: l, hl, hn => by
    have hx := hl x (by simp)
    have hl' : ∀ y ∈ l, elB y = true := fun y hy => hl y (by simp [hy])
    simp only [List.length_cons] at hn
    have hm := of_zn hl' (by omega)
    have e : x :: l = [x] ++ l := rfl
    rw [List.reverse_cons, of_append l.reverse [x] (fun y hy => hl' y (by simpa using hy)) (fun y hy => by rw [List.mem_singleton.1 hy]; exact hx) (by simp; omega), of_reverse l hl' (by omega), of_one hx]
    rw [e, of_append [x] l (fun y hy => by rw [List.mem_singleton.1 hy]; exact hx) hl' (by simp; omega), of_one hx]
    exact join_comm hm.chk (one_chk hx) hm.ok (one_okW x)
end Go.Proofs.Ytdokabaeddaipaa.K
