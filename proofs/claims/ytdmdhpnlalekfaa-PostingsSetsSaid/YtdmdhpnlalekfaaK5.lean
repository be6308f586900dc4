/- Plain facts on lists of numbers: what the reference's Merge and Or answer. No condition beyond those in the statements. -/
import Derived.Test.YtdmdhpnlalekfaaK4
namespace Go.Proofs.Ytdmdhpnlalekfaa.VB
open Go.RowKit Go.Proofs.Ytdmdhpnlalekfaa.P Go.Proofs.Ytdmdhpnlalekfaa.A Go.Proofs.Ytdmdhpnlalekfaa.Hand Go.Proofs.YtdmdhpnlalekfaaW.PrintWords Go.Proofs.YtdmdhpnlalekfaaW.PrintLast Go.Proofs.YtdmdhpnlalekfaaW.PrintMore
def INS (l : List Int) (x : Int) : List Int := if SK l x < l.length ∧ rd l (SK l x) = x then l else l.take (SK l x) ++ x :: l.drop (SK l x)
theorem ins_ev (l : List Int) (x : Int) (h : CK l = 0) (hl : l.length ≤ 1000000) : Ev (fun k => lookoutref08_insert.f k l x) (INS l x) := by
  have hs := seekRef_ev l x (by omega)
  rw [if_pos h] at hs
  have hle := SK_le l x
  simp only [lookoutref08_insert.f, Option.bind_some]
  refine Ev.bind hs ?_
  have h1 : (l.take (SK l x)).length = SK l x := by rw [List.length_take]; omega
  have h2 : (l.drop (SK l x)).length = l.length - SK l x := List.length_drop ..
  have e : INS l x = if SK l x < l.length ∧ rd l (SK l x) = x then l else ([] ++ l.take (SK l x)) ++ [x] ++ l.drop (SK l x) := by
    unfold INS; split
    · rfl
    · simp
  rw [e]
  simp only [Int.toNat_natCast, List.length_nil, List.length_append, List.length_singleton, h1, h2, if_pos (show (0 : Int) ≤ (SK l x : Int) by omega), if_pos (show (SK l x : Int) ≤ (l.length : Int) by omega),
    if_pos (show 0 + SK l x < 17592186044416 by omega), if_pos (show 0 + SK l x + 1 + (l.length - SK l x) < 17592186044416 by omega)]
  by_cases hlt : SK l x < l.length
  · simp only [if_pos (show (SK l x : Int) < (l.length : Int) by omega)]
    by_cases hx : rd l (SK l x) = x
    · simp only [if_pos hx, if_pos (show SK l x < l.length ∧ rd l (SK l x) = x from ⟨hlt, hx⟩)]; exact Ev.now _
    · simp only [if_neg hx, if_neg (show ¬ (SK l x < l.length ∧ rd l (SK l x) = x) from fun h => hx h.2)]; exact Ev.now _
  · simp only [if_neg (show ¬ ((SK l x : Int) < (l.length : Int)) by omega), if_neg (show ¬ (SK l x < l.length ∧ rd l (SK l x) = x) from fun h => hlt h.1)]; exact Ev.now _
theorem SK_nil (x : Int) : SK [] x = 0 := rfl
theorem SK_cons_lt {y x : Int} (r : List Int) (h : y < x) : SK (y :: r) x = SK r x + 1 := by unfold SK; rw [List.takeWhile_cons_of_pos (by simpa using h), List.length_cons]
theorem SK_cons_ge {y x : Int} (r : List Int) (h : ¬ y < x) : SK (y :: r) x = 0 := by unfold SK; rw [List.takeWhile_cons_of_neg (by simpa using h)]; rfl
theorem rd_succ (y : Int) (r : List Int) (i : Nat) : rd (y :: r) ((i + 1 : Nat) : Int) = rd r (i : Int) := by rw [rd_nat, rd_nat]; simp
theorem INS_nil (x : Int) : INS [] x = [x] := by simp [INS, SK_nil]
theorem INS_cons (y x : Int) (r : List Int) : INS (y :: r) x = if y < x then y :: INS r x else if y = x then y :: r else x :: y :: r := by
  by_cases h : y < x
  · rw [if_pos h]
    unfold INS
    rw [SK_cons_lt r h, rd_succ, List.length_cons]
    by_cases hc : SK r x < r.length ∧ rd r (SK r x) = x
    · rw [if_pos hc, if_pos ⟨by omega, hc.2⟩]
    · rw [if_neg hc, if_neg (fun h' => hc ⟨by omega, h'.2⟩)]; simp
  · rw [if_neg h]
    unfold INS
    rw [SK_cons_ge r h]
    have e : rd (y :: r) ((0 : Nat) : Int) = y := by rw [rd_nat]; rfl
    rw [e]
    by_cases hc : y = x
    · rw [if_pos hc, if_pos ⟨by simp, hc⟩]
    · rw [if_neg hc, if_neg (fun h' => hc h'.2)]; simp
theorem INS_mem : ∀ (l : List Int) (x z : Int), z ∈ INS l x ↔ z = x ∨ z ∈ l
  | [], x, z => by rw [INS_nil]; simp
  | y :: r, x, z => by
    rw [INS_cons]
    split
    · rw [List.mem_cons, INS_mem r x z, List.mem_cons]
      constructor
      · rintro (h | h | h) <;> simp [h]
      · rintro (h | h | h) <;> simp [h]
    · split
      · rename_i h; subst h; simp
      · simp
theorem INS_sorted : ∀ (l : List Int) (x : Int), l.Pairwise (· < ·) → (INS l x).Pairwise (· < ·)
  | [], x, _ => by rw [INS_nil]; simp
  | y :: r, x, h => by
    have h' := List.pairwise_cons.1 h
    rw [INS_cons]
    split
    · rename_i hlt
      rw [List.pairwise_cons]
      refine ⟨fun z hz => ?_, INS_sorted r x h'.2⟩
      rcases (INS_mem r x z).1 hz with rfl | hz
      · exact hlt
      · exact h'.1 z hz
    · split
      · exact h
      · rw [List.pairwise_cons]
        refine ⟨fun z hz => ?_, h⟩
        rcases List.mem_cons.1 hz with rfl | hz
        · omega
        · have := h'.1 z hz; omega
theorem INS_valid {l : List Int} {x : Int} (h : VL l) (h0 : 0 ≤ x) (h1 : x ≤ 1152921504606846976) : VL (INS l x) :=
  ⟨fun z hz => by
    rcases (INS_mem l x z).1 hz with rfl | hz
    · exact ⟨h0, h1⟩
    · exact h.1 z hz, INS_sorted l x h.2⟩
theorem INS_len (l : List Int) (x : Int) : (INS l x).length ≤ l.length + 1 := by
  have := SK_le l x
  unfold INS
  split
  · omega
  · rw [List.length_append, List.length_cons, List.length_take, List.length_drop]; omega
def INSs (l xs : List Int) : List Int := xs.foldl INS l
theorem INSs_mem : ∀ (xs l : List Int) (z : Int), z ∈ INSs l xs ↔ z ∈ l ∨ z ∈ xs
  | [], l, z => by simp [INSs]
  | x :: r, l, z => by
    show z ∈ INSs (INS l x) r ↔ _
    rw [INSs_mem r (INS l x) z, INS_mem, List.mem_cons]
    constructor
    · rintro ((h | h) | h) <;> simp [h]
    · rintro (h | h | h) <;> simp [h]
theorem INSs_valid : ∀ (xs l : List Int), VL l → (∀ x ∈ xs, 0 ≤ x ∧ x ≤ 1152921504606846976) → VL (INSs l xs)
  | [], l, h, _ => h
  | x :: r, l, h, hx => INSs_valid r (INS l x) (INS_valid h (hx x (by simp)).1 (hx x (by simp)).2) (fun y hy => hx y (by simp [hy]))
theorem INSs_len : ∀ (xs l : List Int), (INSs l xs).length ≤ l.length + xs.length
  | [], l => by simp [INSs]
  | x :: r, l => by
    have h1 := INSs_len r (INS l x)
    have h2 := INS_len l x
    show (INSs (INS l x) r).length ≤ _
    rw [List.length_cons]
    omega
def FO (acc : List Int) (ll : List (List Int)) : List Int := ll.foldl INSs acc
def total (ll : List (List Int)) : Nat := (ll.map List.length).sum
theorem total_cons (l : List Int) (r : List (List Int)) : total (l :: r) = l.length + total r := by simp [total]
theorem FO_valid : ∀ (ll : List (List Int)) (acc : List Int), VL acc → (∀ l ∈ ll, VL l) → VL (FO acc ll)
  | [], acc, h, _ => h
  | l :: r, acc, h, hl => FO_valid r (INSs acc l) (INSs_valid l acc h (hl l (by simp)).1) (fun m hm => hl m (by simp [hm]))
theorem FO_mem : ∀ (ll : List (List Int)) (acc : List Int) (z : Int), z ∈ FO acc ll ↔ z ∈ acc ∨ ∃ l ∈ ll, z ∈ l
  | [], acc, z => by simp [FO]
  | l :: r, acc, z => by
    show z ∈ FO (INSs acc l) r ↔ _
    rw [FO_mem r (INSs acc l) z, INSs_mem]
    constructor
    · rintro ((h | h) | ⟨m, hm, h⟩)
      · exact .inl h
      · exact .inr ⟨l, by simp, h⟩
      · exact .inr ⟨m, by simp [hm], h⟩
    · rintro (h | ⟨m, hm, h⟩)
      · exact .inl (.inl h)
      · rcases List.mem_cons.1 hm with rfl | hm
        · exact .inl (.inr h)
        · exact .inr ⟨m, hm, h⟩
theorem FO_len : ∀ (ll : List (List Int)) (acc : List Int), (FO acc ll).length ≤ acc.length + total ll
  | [], acc => by simp [FO, total]
  | l :: r, acc => by
    have h1 := FO_len r (INSs acc l)
    have h2 := INSs_len l acc
    show (FO (INSs acc l) r).length ≤ _
    rw [total_cons]
    omega
def MG (ll : List (List Int)) : List Int := if ∀ l ∈ ll, CK l = 0 then FO [] ll else []
theorem dropL {ll : List (List Int)} {i : Nat} (h : i < ll.length) : ll.drop i = ll.getD i [] :: ll.drop (i + 1) := by
  rw [List.drop_eq_getElem_cons h]
  congr 1
  simp [List.getD, List.getElem?_eq_getElem h]
theorem merge_l2 (ll : List (List Int)) (hll : ll.length ≤ 1000000) (i : Nat) (hi : i < ll.length) (R : List Int) : ∀ (d j : Nat) (acc : List Int), j + d = (ll.getD i []).length → VL acc → (∀ x ∈ ll.getD i [], 0 ≤ x ∧ x ≤ 1152921504606846976) → acc.length + d ≤ 1000000 → (ll.getD i []).length ≤ 1000000 →
    Ev (fun k => lookoutref08_Merge.l1 k ll (INSs acc ((ll.getD i []).drop j)) ((i + 1 : Nat) : Int)) R → Ev (fun k => lookoutref08_Merge.l2 k ll acc (i : Int) (j : Int)) R := by
  have hrd : ∀ z : Int, z = (i : Int) → ll.getD z.toNat ([] : List Int) = ll.getD i [] := fun z hz => by rw [hz]; rfl
  intro d
  induction d with
  | zero =>
    intro j acc h hv hx hb hb2 hE
    have hw : wrap64 ((i : Int) + 1) = ((i + 1 : Nat) : Int) := by unfold wrap64; omega
    rw [List.drop_eq_nil_of_le (by omega)] at hE
    refine Ev.step (fun k => ?_) hE
    rw [lookoutref08_Merge.l2, if_pos (by omega), if_pos (by omega), if_neg (by show ¬ ((j : Int) < (((ll.getD i []).length : Nat) : Int)); omega), hw]
    rfl
  | succ d ih =>
    intro j acc h hv hx hb hb2 hE
    have hw : wrap64 ((j : Int) + 1) = ((j + 1 : Nat) : Int) := by unfold wrap64; omega
    have hj : j < (ll.getD i []).length := by omega
    have hmem : rd (ll.getD i []) (j : Int) ∈ ll.getD i [] := by
      have : (ll.getD i []).drop j = rd (ll.getD i []) (j : Int) :: (ll.getD i []).drop (j + 1) := drop_rd' hj
      exact List.mem_of_mem_drop (i := j) (by rw [this]; simp)
    have hvx := hx _ hmem
    refine Ev.step (f := fun k => (lookoutref08_insert.f k acc (rd (ll.getD i []) (j : Int))).bind fun t => lookoutref08_Merge.l2 k ll t (i : Int) ((j + 1 : Nat) : Int)) (fun k => ?_) (Ev.bind (ins_ev acc (rd (ll.getD i []) (j : Int)) ((CK_zero acc).2 hv) (by omega)) ?_)
    · rw [lookoutref08_Merge.l2, if_pos (by omega), if_pos (by omega), if_pos (by show (j : Int) < (((ll.getD i []).length : Nat) : Int); omega), if_pos (by omega), hw]
      rfl
    · have := INS_len acc (rd (ll.getD i []) (j : Int))
      refine ih (j + 1) _ (by omega) (INS_valid hv hvx.1 hvx.2) hx (by omega) hb2 ?_
      rw [drop_rd' hj] at hE
      exact hE
theorem merge_l1 (ll : List (List Int)) (hll : ll.length ≤ 1000000) (hv : ∀ l ∈ ll, VL l) (hlen : ∀ l ∈ ll, l.length ≤ 1000000) : ∀ (d i : Nat) (acc : List Int), i + d = ll.length → VL acc → acc.length + total (ll.drop i) ≤ 1000000 → Ev (fun k => lookoutref08_Merge.l1 k ll acc (i : Int)) (FO acc (ll.drop i)) := by
  intro d
  induction d with
  | zero =>
    intro i acc h hva ht
    rw [List.drop_eq_nil_of_le (by omega)]
    exact Ev.step (fun k => by rw [lookoutref08_Merge.l1, if_neg (by omega)]; rfl) (Ev.now _)
  | succ d ih =>
    intro i acc h hva ht
    have hi : i < ll.length := by omega
    rw [dropL hi, total_cons] at ht
    rw [dropL hi]
    have hmem : ll.getD i [] ∈ ll := List.mem_of_mem_drop (i := i) (by rw [dropL hi]; simp)
    have hlen2 := INSs_len (ll.getD i []) acc
    have := ih (i + 1) (INSs acc (ll.getD i [])) (by omega) (INSs_valid _ _ hva (hv _ hmem).1) (by omega)
    refine Ev.step (fun k => by rw [lookoutref08_Merge.l1, if_pos (by omega)]) ?_
    exact merge_l2 ll hll i hi _ (ll.getD i []).length 0 acc (by omega) hva (hv _ hmem).1 (by omega) (hlen _ hmem) (by rw [List.drop_zero]; exact this)
theorem merge_l0 (ll : List (List Int)) (hll : ll.length ≤ 1000000) (hlen : ∀ l ∈ ll, l.length ≤ 1000000) (R : List Int) (hR : (∀ l ∈ ll, CK l = 0) → Ev (fun k => lookoutref08_Merge.l1 k ll [] 0) R) (hR0 : (¬ ∀ l ∈ ll, CK l = 0) → R = []) : ∀ (d i : Nat), i + d = ll.length → (∀ l ∈ ll.take i, CK l = 0) → Ev (fun k => lookoutref08_Merge.l0 k ll [] (i : Int)) R := by
  intro d
  induction d with
  | zero =>
    intro i h hp
    rw [List.take_of_length_le (by omega)] at hp
    exact Ev.step (fun k => by rw [lookoutref08_Merge.l0, if_neg (by omega)]) (hR hp)
  | succ d ih =>
    intro i h hp
    have hi : i < ll.length := by omega
    have hw : wrap64 ((i : Int) + 1) = ((i + 1 : Nat) : Int) := by unfold wrap64; omega
    have hmem : ll.getD i [] ∈ ll := List.mem_of_mem_drop (i := i) (by rw [dropL hi]; simp)
    refine Ev.step (f := fun k => (lookoutref08_Check.f k (ll.getD i [])).bind fun t => if t = 0 then lookoutref08_Merge.l0 k ll [] ((i + 1 : Nat) : Int) else some []) (fun k => by rw [lookoutref08_Merge.l0, if_pos (by omega), if_pos (by omega), hw]; rfl) (Ev.bind (checkRef_ev _ (by have := hlen _ hmem; omega)) ?_)
    by_cases hc : CK (ll.getD i []) = 0
    · simp only [hc, if_true]
      refine ih (i + 1) (by omega) (fun l hl => ?_)
      rw [List.take_succ_eq_append_getElem hi, List.mem_append] at hl
      rcases hl with hl | hl
      · exact hp l hl
      · have e : ll[i] = ll.getD i [] := by simp [List.getD, List.getElem?_eq_getElem hi]
        rw [e] at hl
        simp at hl
        have e2 : ll.getD i [] = ll[i]?.getD [] := rfl
        rw [hl, ← e2]
        exact hc
    · simp only [hc, if_false]
      rw [hR0 (fun h => hc (h _ hmem))]
      exact Ev.now _
theorem mergeRef_ev (ll : List (List Int)) (hll : ll.length ≤ 1000000) (ht : total ll ≤ 1000000) (hlen : ∀ l ∈ ll, l.length ≤ 1000000) : Ev (fun k => lookoutref08_Merge.f k ll) (MG ll) := by
  refine merge_l0 ll hll hlen (MG ll) (fun h => ?_) (fun h => if_neg h) ll.length 0 (by omega) (by simp)
  have := merge_l1 ll hll (fun l hl => (CK_zero l).1 (h l hl)) hlen ll.length 0 [] (by omega) ⟨by simp, by simp⟩ (by simpa using ht)
  unfold MG
  rw [if_pos h]
  exact this
theorem or_merge {a b : List Int} (ha : VL a) (hb : VL b) : combG gOr (walkL a b) = FO [] [a, b] := by
  have hn : VL [] := ⟨by simp, by simp⟩
  refine sorted_ext _ _ (comb_sorted _ ha.2 hb.2) (FO_valid [a, b] [] hn (by simp [ha, hb])).2 (fun x => ?_)
  rw [comb_mem _ ha.2 hb.2, FO_mem]
  simp only [gOr, Bool.or_eq_true, decide_eq_true_eq]
  constructor
  · rintro ⟨h, _⟩
    rcases h with h | h
    · exact .inr ⟨a, by simp, h⟩
    · exact .inr ⟨b, by simp, h⟩
  · rintro (h | ⟨l, hl, h⟩)
    · simp at h
    · rcases List.mem_cons.1 hl with rfl | hl
      · exact ⟨.inl h, .inl h⟩
      · simp at hl
        subst hl
        exact ⟨.inr h, .inr h⟩
theorem orRef_ev (a b : List Int) (ha : a.length ≤ 100000) (hb : b.length ≤ 100000) : Ev (fun k => lookoutref08_Or.f k a b) (OR a b) := by
  simp only [lookoutref08_Or.f]
  have := mergeRef_ev [a, b] (by simp) (by simp [total]; omega) (by simp; omega)
  have e : MG [a, b] = OR a b := by
    unfold MG OR
    by_cases h : CK a = 0 ∧ CK b = 0
    · rw [if_pos h, if_pos (by simp [h]), or_merge ((CK_zero a).1 h.1) ((CK_zero b).1 h.2)]
    · rw [if_neg h, if_neg (fun h' => h ⟨h' a (by simp), h' b (by simp)⟩)]
  rw [e] at this
  exact Ev.bind this (Ev.now _)
end Go.Proofs.Ytdmdhpnlalekfaa.VB
