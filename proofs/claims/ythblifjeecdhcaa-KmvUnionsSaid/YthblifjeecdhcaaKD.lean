/- Several texts of this session in one. No condition beyond those in the statements. -/
import Derived.Test.YthblifjeecdhcaaWMore
import Derived.Test.YthblifjeecdhcaaHAll
import Derived.Test.YthblifjeecdhcaaPx8
import Derived.Test.YthblifjeecdhcaaPx1
import Derived.Test.YthblifjeecdhcaaPx12
import Derived.Test.YthblifjeecdhcaaPx36
import Derived.Test.YthblifjeecdhcaaPx37
import Derived.Test.YthblifjeecdhcaaHX
import Derived.Test.YthblifjeecdhcaaPx10
import Derived.Test.YthblifjeecdhcaaPx15
section
namespace Go.Proofs.Ythblifjeecdhcaa.KB
open Go.RowKit Go.Proofs.YthblifjeecdhcaaW.PrintWords Go.Proofs.YthblifjeecdhcaaW.PrintMore
set_option linter.unusedVariables false
set_option linter.unusedSimpArgs false
theorem w1 {i : Nat} (h : i < 140737488355328) : wrap64 ((i : Int) + 1) = ((i + 1 : Nat) : Int) := by unfold wrap64; omega
theorem rdI {l : List Int} {i : Nat} (h : i < l.length) : rd l (i : Int) = l[i] := by simp [rd, List.getD, List.getElem?_eq_getElem h]
theorem dropI {l : List Int} {i : Nat} (h : i < l.length) : l.drop i = l[i] :: l.drop (i + 1) := List.drop_eq_getElem_cons h
abbrev SO (l : List Int) : Prop := l.Pairwise (· < ·)
/-- Two strictly ascending lists with the same numbers are the same. -/
theorem so_ext : ∀ (a b : List Int), SO a → SO b → (∀ x, x ∈ a ↔ x ∈ b) → a = b
  | [], [], _, _, _ => rfl
  | [], y :: b, _, _, h => by have := (h y).2 (by simp); simp at this
  | x :: a, [], _, _, h => by have := (h x).1 (by simp); simp at this
  | x :: a, y :: b, ha, hb, h => by
    unfold SO at ha hb
    rw [List.pairwise_cons] at ha hb
    have hxy : x = y := by
      have h1 := (h x).1 (by simp)
      have h2 := (h y).2 (by simp)
      rcases List.mem_cons.1 h1 with h1 | h1
      · exact h1
      · rcases List.mem_cons.1 h2 with h2 | h2
        · exact h2.symm
        · have := hb.1 x h1; have := ha.1 y h2; omega
    subst hxy
    rw [so_ext a b ha.2 hb.2 (fun z => by
      constructor
      · intro hz
        have := ha.1 z hz
        rcases List.mem_cons.1 ((h z).1 (by simp [hz])) with rfl | h'
        · omega
        · exact h'
      · intro hz
        have := hb.1 z hz
        rcases List.mem_cons.1 ((h z).2 (by simp [hz])) with rfl | h'
        · omega
        · exact h')]
def INS : List Int → Int → List Int
  | [], x => [x]
  | y :: r, x => if y < x then y :: INS r x else if y = x then y :: r else x :: y :: r
theorem ins_mem : ∀ (l : List Int) (x z : Int), z ∈ INS l x ↔ z = x ∨ z ∈ l
  | [], x, z => by simp [INS]
  | y :: r, x, z => by
    unfold INS
    split
    · rw [List.mem_cons, ins_mem r x z, List.mem_cons]; constructor <;> (intro h; rcases h with h | h | h <;> simp [h])
    · split
      · subst_vars; simp
      · simp
theorem ins_so : ∀ (l : List Int) (x : Int), SO l → SO (INS l x)
  | [], x, _ => by simp [INS, SO]
  | y :: r, x, h => by
    have h' := List.pairwise_cons.1 h
    unfold INS
    split
    · refine List.pairwise_cons.2 ⟨fun z hz => ?_, ins_so r x h'.2⟩
      rcases (ins_mem r x z).1 hz with rfl | hz
      · assumption
      · exact h'.1 z hz
    · split
      · exact h
      · refine List.pairwise_cons.2 ⟨fun z hz => ?_, h⟩
        rcases List.mem_cons.1 hz with rfl | hz
        · omega
        · have := h'.1 z hz; omega
theorem ins_in {l : List Int} {x : Int} (h : SO l) (hx : x ∈ l) : INS l x = l :=
  so_ext _ _ (ins_so l x h) h (fun z => by
    rw [ins_mem]
    exact ⟨fun h => h.elim (fun h => by rw [h]; exact hx) id, .inr⟩)
theorem ins_len : ∀ (l : List Int) (x : Int), (INS l x).length ≤ l.length + 1
  | [], x => by simp [INS]
  | y :: r, x => by
    unfold INS
    split
    · have := ins_len r x; simp; omega
    · split <;> simp
theorem ins_len' : ∀ (l : List Int) (x : Int), l.length ≤ (INS l x).length
  | [], x => by simp [INS]
  | y :: r, x => by
    unfold INS
    split
    · have := ins_len' r x; simp; omega
    · split <;> simp
/-- The smallest `n` of a list with one more number, from the smallest `n` of the list. -/
theorem take_ins : ∀ (l : List Int) (x : Int) (n : Nat), (INS (l.take n) x).take n = (INS l x).take n
  | [], x, n => by simp
  | y :: r, x, 0 => by simp
  | y :: r, x, n + 1 => by
    rw [List.take_succ_cons]
    unfold INS
    split
    · rw [List.take_succ_cons, List.take_succ_cons, take_ins r x n]
    · split
      · simp [List.take_take]
      · rw [List.take_succ_cons, List.take_succ_cons]
        cases n with
        | zero => simp
        | succ n => simp [List.take_take]
def U (a b : List Int) : List Int := b.foldl INS a
def MG (n : Nat) (a b : List Int) : List Int := b.foldl (fun s x => (INS s x).take n) a
theorem U_mem : ∀ (b a : List Int) (z : Int), z ∈ U a b ↔ z ∈ a ∨ z ∈ b
  | [], a, z => by simp [U]
  | x :: b, a, z => by
    have := U_mem b (INS a x) z
    unfold U at this ⊢
    rw [List.foldl_cons, this, ins_mem, List.mem_cons]
    constructor <;> (intro h; rcases h with h | h <;> first | (rcases h with h | h <;> simp [h]) | simp [h])
theorem U_so : ∀ (b a : List Int), SO a → SO (U a b)
  | [], a, h => h
  | x :: b, a, h => by
    have := U_so b (INS a x) (ins_so a x h)
    unfold U at this ⊢
    rw [List.foldl_cons]; exact this
theorem U_comm {a b : List Int} (ha : SO a) (hb : SO b) : U a b = U b a := so_ext _ _ (U_so b a ha) (U_so a b hb) (fun z => by rw [U_mem, U_mem]; exact Or.comm)
theorem U_assoc {a b c : List Int} (ha : SO a) (hb : SO b) : U (U a b) c = U a (U b c) :=
  so_ext _ _ (U_so c _ (U_so b a ha)) (U_so _ _ ha) (fun z => by rw [U_mem, U_mem, U_mem, U_mem]; exact or_assoc)
theorem MG_take : ∀ (b a : List Int) (n : Nat), MG n (a.take n) b = (U a b).take n
  | [], a, n => rfl
  | x :: b, a, n => by
    have := MG_take b (INS a x) n
    unfold MG U at this ⊢
    rw [List.foldl_cons, List.foldl_cons, take_ins, this]
theorem MG_is {a : List Int} {n : Nat} (h : a.length ≤ n) (b : List Int) : MG n a b = (U a b).take n := by
  have := MG_take b a n
  rwa [List.take_of_length_le h] at this
theorem take_so {l : List Int} (h : SO l) (n : Nat) : SO (l.take n) := h.sublist (List.take_sublist n l)
theorem MG_so {a : List Int} (h : SO a) : ∀ (b : List Int) (n : Nat), a.length ≤ n → SO (MG n a b) := fun b n hn => by rw [MG_is hn]; exact take_so (U_so b a h) n
theorem MG_len {a : List Int} (b : List Int) (n : Nat) (hn : a.length ≤ n) : (MG n a b).length ≤ n := by rw [MG_is hn, List.length_take]; omega
theorem MG_comm {a b : List Int} {n : Nat} (ha : SO a) (hb : SO b) (h1 : a.length ≤ n) (h2 : b.length ≤ n) : MG n a b = MG n b a := by rw [MG_is h1, MG_is h2, U_comm ha hb]
theorem take_U_left {a b : List Int} {n : Nat} : (U (a.take n) b).take n = (U a b).take n := by
  rw [← MG_take b a n, MG_is (by rw [List.length_take]; omega)]
theorem take_U_right {a b : List Int} {n : Nat} (ha : SO a) (hb : SO b) : (U a (b.take n)).take n = (U a b).take n := by
  rw [U_comm ha (take_so hb n), take_U_left, U_comm hb ha]
theorem MG_assoc {a b c : List Int} {n : Nat} (ha : SO a) (hb : SO b) (hc : SO c) (h1 : a.length ≤ n) (h2 : b.length ≤ n) (h3 : c.length ≤ n) : MG n (MG n a b) c = MG n a (MG n b c) := by
  rw [MG_is (MG_len b n h1), MG_is h1, MG_is h1, MG_is h2, take_U_left, take_U_right ha (U_so c b hb), U_assoc ha hb]
theorem U_len : ∀ (b a : List Int), (U a b).length ≤ a.length + b.length
  | [], a => by simp [U]
  | x :: b, a => by
    have := U_len b (INS a x)
    have := ins_len a x
    unfold U at *
    rw [List.foldl_cons, List.length_cons]; omega
theorem U_len' : ∀ (b a : List Int), a.length ≤ (U a b).length
  | [], a => by simp [U]
  | x :: b, a => by
    have := U_len' b (INS a x)
    have := ins_len' a x
    unfold U at *
    rw [List.foldl_cons]; omega
/-- Adding a number twice. -/
theorem ins_twice {l : List Int} {x : Int} {n : Nat} (h : SO l) : (INS ((INS l x).take n) x).take n = (INS l x).take n := by
  rw [take_ins, ins_in (ins_so l x h) ((ins_mem l x x).2 (.inl rfl))]
/-- Where a number goes. -/
theorem ins_at : ∀ (l : List Int) (x : Int) (i : Nat), SO l → i ≤ l.length → (∀ t, (h : t < l.length) → t < i → l[t] < x) → (∀ t, (h : t < l.length) → i ≤ t → x < l[t]) → INS l x = l.take i ++ x :: l.drop i
  | [], x, i, _, h, _, _ => by simp at h; subst h; rfl
  | y :: r, x, i, hs, h, h1, h2 => by
    unfold INS
    cases i with
    | zero =>
      have := h2 0 (by simp) (by omega)
      simp at this
      rw [if_neg (by omega), if_neg (by omega)]; rfl
    | succ i =>
      have := h1 0 (by simp) (by omega)
      simp at this
      rw [if_pos this, ins_at r x i (List.pairwise_cons.1 hs).2 (by simpa using h) (fun t ht hi => by have := h1 (t + 1) (by simpa using ht) (by omega); simpa using this) (fun t ht hi => by have := h2 (t + 1) (by simpa using ht) (by omega); simpa using this)]
      rfl
theorem so_lt {l : List Int} (h : SO l) {i j : Nat} (hij : i < j) (hj : j < l.length) : l[i] < l[j] := List.pairwise_iff_getElem.1 h i j (by omega) hj hij
/-! ## What Check tests -/
def ckS : Int → List Int → Bool
  | _, [] => true
  | q, x :: r => if x ≤ q then false else if 4294967296 ≤ x then false else ckS x r
theorem ckS_iff : ∀ (l : List Int) (q : Int), -1 ≤ q → (ckS q l = true ↔ (∀ x ∈ l, 0 ≤ x ∧ x < 4294967296) ∧ (∀ x ∈ l, q < x) ∧ SO l)
  | [], q, _ => by simp [ckS, SO]
  | x :: r, q, hq => by
    unfold ckS SO
    rw [List.pairwise_cons]
    by_cases h1 : x ≤ q
    · rw [if_pos h1]
      constructor
      · intro h; cases h
      · rintro ⟨_, h, _⟩; have := h x (by simp); omega
    · rw [if_neg h1]
      by_cases h2 : 4294967296 ≤ x
      · rw [if_pos h2]
        constructor
        · intro h; cases h
        · rintro ⟨h, _⟩; have := h x (by simp); omega
      · rw [if_neg h2, ckS_iff r x (by omega)]
        constructor
        · rintro ⟨a, b, c⟩
          refine ⟨fun y hy => ?_, fun y hy => ?_, b, c⟩
          · rcases List.mem_cons.1 hy with rfl | hy
            · omega
            · exact a y hy
          · rcases List.mem_cons.1 hy with rfl | hy
            · omega
            · have := b y hy; omega
        · rintro ⟨a, _, b, c⟩
          exact ⟨fun y hy => a y (by simp [hy]), b, c⟩
def OKK (K C : Int) (H : List Int) : Prop := 1 ≤ K ∧ K ≤ 1000 ∧ 0 ≤ C ∧ C ≤ 1152921504606846976 ∧ (H.length : Int) ≤ K ∧ (H.length : Int) ≤ C ∧ (H.length = 0 → C = 0) ∧ ckS (-1) H = true
instance (K C : Int) (H : List Int) : Decidable (OKK K C H) := by unfold OKK; infer_instance
theorem OKK.so {K C : Int} {H : List Int} (h : OKK K C H) : SO H := ((ckS_iff H (-1) (by omega)).1 h.2.2.2.2.2.2.2).2.2
theorem OKK.mem {K C : Int} {H : List Int} (h : OKK K C H) : ∀ x ∈ H, 0 ≤ x ∧ x < 4294967296 := ((ckS_iff H (-1) (by omega)).1 h.2.2.2.2.2.2.2).1
theorem OKK.len {K C : Int} {H : List Int} (h : OKK K C H) : H.length ≤ K.toNat := by have := h.1; have := h.2.2.2.2.1; omega
def CK (K C : Int) (H : List Int) : Int := if OKK K C H then 0 else 1
theorem CK_zero {K C : Int} {H : List Int} : CK K C H = 0 ↔ OKK K C H := by unfold CK; split <;> simp_all
/-- A sketch of two is a sketch. -/
theorem OKK.merge {K C D : Int} {G H : List Int} (hg : OKK K C G) (hh : OKK K D H) (hc : C + D ≤ 1152921504606846976) : OKK K (C + D) (MG K.toNat G H) := by
  have l1 := U_len H G
  have l2 := U_len' H G
  have e := MG_is hg.len H
  obtain ⟨a1, a2, a3, a4, a5, a6, a7, a8⟩ := hg
  obtain ⟨b1, b2, b3, b4, b5, b6, b7, b8⟩ := hh
  have hl : (MG K.toNat G H).length = min K.toNat (U G H).length := by rw [e, List.length_take]
  refine ⟨a1, a2, by omega, hc, by omega, by omega, fun h => ?_, ?_⟩
  · have hn : (U G H).length = 0 := by omega
    have hH : H.length = 0 := by
      cases H with
      | nil => rfl
      | cons x r => have := (U_mem (x :: r) G x).2 (.inr (by simp)); rw [List.length_eq_zero_iff.1 hn] at this; simp at this
    have := a7 (by omega); have := b7 hH; omega
  · rw [ckS_iff _ _ (by omega)] at a8 b8 ⊢
    have hm : ∀ x ∈ MG K.toNat G H, x ∈ G ∨ x ∈ H := fun x hx => (U_mem H G x).1 (List.mem_of_mem_take (by rw [e] at hx; exact hx))
    refine ⟨fun x hx => (hm x hx).elim (a8.1 x) (b8.1 x), fun x hx => (hm x hx).elim (a8.2.1 x) (b8.2.1 x), by rw [e]; exact take_so (U_so H G a8.2.2) _⟩
end Go.Proofs.Ythblifjeecdhcaa.KB
end
section
namespace Go.Proofs.Ythblifjeecdhcaa.KB
open Go.RowKit Go.Proofs.Ythblifjeecdhcaa.A Go.Proofs.Ythblifjeecdhcaa.P Go.Proofs.Ythblifjeecdhcaa.Hand Go.Proofs.YthblifjeecdhcaaW.PrintWords Go.Proofs.YthblifjeecdhcaaW.PrintLast Go.Proofs.YthblifjeecdhcaaW.PrintMore
set_option linter.unusedVariables false
set_option linter.unusedSimpArgs false
set_option maxRecDepth 10000
theorem check_l0 (l : List Int) (hl : l.length ≤ 17592186043904) : ∀ (d i : Nat) (q : Int), i + d = l.length → Ev (fun k => kmv_Check.l0 k q l (l.length : Int) (i : Int)) (if ckS q (l.drop i) = true then 0 else 1) := by
  intro d
  induction d with
  | zero => intro i q h; rw [List.drop_eq_nil_of_le (by omega), ckS, if_pos rfl]; exact Ev.step (fun k => by rw [kmv_Check.l0, if_neg (by omega)]) (Ev.now _)
  | succ d ih =>
    intro i q h
    have hi : i < l.length := by omega
    rw [dropI hi, ckS]
    have e := rdI hi
    by_cases h1 : l[i] ≤ q
    · rw [if_pos h1, if_neg (by decide)]
      exact Ev.step (fun k => by rw [kmv_Check.l0, if_pos (by omega), if_pos (by omega), if_pos (by omega), e, if_pos h1]) (Ev.now _)
    · rw [if_neg h1]
      by_cases h2 : 4294967296 ≤ l[i]
      · rw [if_pos h2, if_neg (by decide)]
        exact Ev.step (fun k => by rw [kmv_Check.l0, if_pos (by omega), if_pos (by omega), if_pos (by omega), e, if_neg h1, if_pos h2]) (Ev.now _)
      · rw [if_neg h2]
        exact Ev.step (fun k => by rw [kmv_Check.l0, if_pos (by omega), if_pos (by omega), if_pos (by omega), e, if_neg h1, if_neg h2, w1 (by omega)]) (ih (i + 1) l[i] (by omega))
theorem check_ev (K C : Int) (l : List Int) (hl : l.length ≤ 17592186043904) : Ev (fun k => kmv_Check.f k K C l) (CK K C l) := by
  have bad : ∀ (p : Prop), p → ¬ OKK K C l → Ev (fun k => kmv_Check.j0 k true K C l) (CK K C l) := fun p _ h => by
    unfold CK; rw [if_neg h]; exact Ev.step (fun k => by rw [kmv_Check.j0, if_pos rfl]) (Ev.now _)
  by_cases h1 : K < 1
  · exact Ev.congr (fun k => by rw [kmv_Check.f, if_pos h1]) (bad _ trivial (fun h => by have := h.1; omega))
  · by_cases h2 : K > 1000
    · exact Ev.congr (fun k => by rw [kmv_Check.f, if_neg h1, if_pos h2]) (bad _ trivial (fun h => by have := h.2.1; omega))
    · by_cases h3 : C < 0
      · exact Ev.congr (fun k => by rw [kmv_Check.f, if_neg h1, if_neg h2, if_pos h3]) (bad _ trivial (fun h => by have := h.2.2.1; omega))
      · by_cases h4 : C > 1152921504606846976
        · exact Ev.congr (fun k => by rw [kmv_Check.f, if_neg h1, if_neg h2, if_neg h3, decide_eq_true h4]) (bad _ trivial (fun h => by have := h.2.2.2.1; omega))
        · have bad1 : ¬ OKK K C l → Ev (fun k => kmv_Check.j1 k true K C l) (CK K C l) := fun h => by
            unfold CK; rw [if_neg h]; exact Ev.step (fun k => by rw [kmv_Check.j1, if_pos rfl]) (Ev.now _)
          refine Ev.congr (f := fun k => kmv_Check.j0 k false K C l) (fun k => by rw [kmv_Check.f, if_neg h1, if_neg h2, if_neg h3, decide_eq_false h4]) ?_
          by_cases h5 : (l.length : Int) > K
          · exact Ev.step (fun k => by rw [kmv_Check.j0, if_neg (by decide), if_pos h5]) (bad1 (fun h => by have := h.2.2.2.2.1; omega))
          · by_cases h6 : (l.length : Int) > C
            · exact Ev.step (fun k => by rw [kmv_Check.j0, if_neg (by decide), if_neg h5, if_pos h6]) (bad1 (fun h => by have := h.2.2.2.2.2.1; omega))
            · have good : (l.length = 0 → C = 0) → Ev (fun k => kmv_Check.j1 k false K C l) (CK K C l) := fun h0 => by
                have e : CK K C l = if ckS (-1) (l.drop 0) = true then 0 else 1 := by
                  unfold CK
                  rw [List.drop_zero]
                  by_cases h : ckS (-1) l = true
                  · rw [if_pos h, if_pos (show OKK K C l from ⟨by omega, by omega, by omega, by omega, by omega, by omega, h0, h⟩)]
                  · rw [if_neg h, if_neg (show ¬ OKK K C l from fun h' => h h'.2.2.2.2.2.2.2)]
                rw [e]
                exact Ev.step (fun k => by rw [kmv_Check.j1, if_neg (by decide)]; rfl) (check_l0 l hl l.length 0 (-1) (by omega))
              by_cases h7 : (l.length : Int) = 0
              · by_cases h8 : C > 0
                · exact Ev.step (fun k => by rw [kmv_Check.j0, if_neg (by decide), if_neg h5, if_neg h6, if_pos h7, decide_eq_true h8]) (bad1 (fun h => by have := h.2.2.2.2.2.2.1 (by omega); omega))
                · exact Ev.step (fun k => by rw [kmv_Check.j0, if_neg (by decide), if_neg h5, if_neg h6, if_pos h7, decide_eq_false h8]) (good (fun _ => by omega))
              · exact Ev.step (fun k => by rw [kmv_Check.j0, if_neg (by decide), if_neg h5, if_neg h6, if_neg h7]) (good (fun h => by omega))
/-! ## insert -/
theorem less_is (a b : Int) : cmp_Less_int.f a b = some (decide (a < b)) := by simp [cmp_Less_int.f, cmp_isNaN_int.f]
/-- Where a search may end. -/
structure AT (l : List Int) (x : Int) (i : Nat) (b : Bool) : Prop where
  le : i ≤ l.length
  lo : ∀ t, (h : t < l.length) → t < i → l[t] < x
  hi : ∀ t, (h : t < l.length) → i ≤ t → b = false → x < l[t]
  yes : b = true → x ∈ l
theorem binary_l0 (l : List Int) (x : Int) (hl : l.length ≤ 17592186043904) (hv : SO l) : ∀ (d i j : Nat), j - i ≤ d → i ≤ j → j ≤ l.length → (∀ t, (h : t < l.length) → t < i → l[t] < x) → (∀ t, (h : t < l.length) → j ≤ t → x ≤ l[t]) →
    ∃ m b, AT l x m b ∧ Ev (fun k => slices_BinarySearch_int_int.l0 k l x (l.length : Int) (i : Int) (j : Int)) ((m : Int), b) := by
  have fin : ∀ i : Nat, i ≤ l.length → (∀ t, (h : t < l.length) → t < i → l[t] < x) → (∀ t, (h : t < l.length) → i ≤ t → x ≤ l[t]) → ∃ m b, AT l x m b ∧ Ev (fun k => slices_BinarySearch_int_int.l0 k l x (l.length : Int) (i : Int) (i : Int)) ((m : Int), b) := by
    intro i hi h1 h2
    by_cases hlt : i < l.length
    · have e := rdI hlt
      by_cases hx : l[i] = x
      · exact ⟨i, true, ⟨hi, h1, (fun _ _ _ h => by cases h), fun _ => hx ▸ List.getElem_mem hlt⟩, Ev.step (fun k => by rw [slices_BinarySearch_int_int.l0, if_neg (by omega), if_pos (by omega), if_pos (by omega), if_pos (by omega), e, if_pos hx]) (Ev.now _)⟩
      · exact ⟨i, false, ⟨hi, h1, (fun t ht hit _ => by
          rcases Nat.lt_or_ge i t with h | h
          · have := so_lt hv h ht; have := h2 i hlt (by omega); omega
          · obtain rfl : t = i := by omega
            have := h2 t ht hit; omega), fun h => by cases h⟩, Ev.step (fun k => by
          rw [slices_BinarySearch_int_int.l0, if_neg (by omega), if_pos (by omega), if_pos (by omega), if_pos (by omega), e, if_neg hx]
          simp [slices_isNaN_int.f]) (Ev.now _)⟩
    · exact ⟨i, false, ⟨hi, h1, fun t ht hit _ => by omega, fun h => by cases h⟩, Ev.step (fun k => by rw [slices_BinarySearch_int_int.l0, if_neg (by omega), if_neg (by omega)]) (Ev.now _)⟩
  intro d
  induction d with
  | zero =>
    intro i j h1 h2 h3 h4 h5
    obtain rfl : i = j := by omega
    exact fin i h3 h4 h5
  | succ d ih =>
    intro i j h1 h2 h3 h4 h5
    by_cases hij : i < j
    · have hh : wrap64 ((IntKind.u64.wrap (wrap64 ((i : Int) + (j : Int)))) / 2) = (((i + j) / 2 : Nat) : Int) := by
        rw [IntKind.wrap_u64]
        unfold wrap64
        omega
      have hw : wrap64 ((((i + j) / 2 : Nat) : Int) + 1) = (((i + j) / 2 + 1 : Nat) : Int) := by unfold wrap64; omega
      have hm : (i + j) / 2 < l.length := by omega
      have e := rdI hm
      by_cases hx : l[(i + j) / 2] < x
      · obtain ⟨m, b, ha, hb⟩ := ih ((i + j) / 2 + 1) j (by omega) (by omega) h3 (fun t hl' ht => by
          rcases Nat.lt_or_ge t ((i + j) / 2) with h | h
          · have := so_lt hv h hm; omega
          · obtain rfl : t = (i + j) / 2 := by omega
            exact hx) h5
        refine ⟨m, b, ha, Ev.step (fun k => ?_) hb⟩
        rw [slices_BinarySearch_int_int.l0, if_pos (by omega), hh, if_pos (by omega), if_pos (by omega), less_is, e]
        simp only [Option.bind_some, decide_eq_true hx, if_true, hw]
      · obtain ⟨m, b, ha, hb⟩ := ih i ((i + j) / 2) (by omega) (by omega) (by omega) h4 (fun t htl ht => by
          rcases Nat.lt_or_ge ((i + j) / 2) t with h | h
          · have := so_lt hv h htl; omega
          · obtain rfl : t = (i + j) / 2 := by omega
            omega)
        refine ⟨m, b, ha, Ev.step (fun k => ?_) hb⟩
        rw [slices_BinarySearch_int_int.l0, if_pos (by omega), hh, if_pos (by omega), if_pos (by omega), less_is, e]
        simp only [Option.bind_some, decide_eq_false hx, if_neg (show ¬ (false = true) by decide)]
    · obtain rfl : i = j := by omega
      exact fin i h3 h4 h5
theorem insert_ev (l : List Int) (x K : Int) (hl : l.length ≤ 17592186043904) (hv : SO l) (hK : 0 ≤ K) (hn : l.length ≤ K.toNat) : Ev (fun k => kmv_insert.f k l x K) ((INS l x).take K.toNat) := by
  obtain ⟨m, b, ha, hb⟩ := binary_l0 l x hl hv l.length 0 l.length (by omega) (by omega) (Nat.le_refl _) (fun t h ht => by omega) (fun t h1 h2 => by omega)
  have hb' : Ev (fun k => slices_BinarySearch_int_int.f k l x) ((m : Int), b) := hb
  unfold kmv_insert.f
  refine Ev.bind hb' ?_
  cases b with
  | true =>
    refine Ev.congr (fun k => if_pos rfl) ?_
    rw [ins_in hv (ha.yes rfl), List.take_of_length_le hn]; exact Ev.now _
  | false =>
    refine Ev.congr (f := fun k => some ((INS l x).take K.toNat)) (fun k => ?_) (Ev.now _)
    have hle := ha.le
    have e := ins_at l x m hv ha.le ha.lo (fun t h hm => ha.hi t h hm rfl)
    have hlen : (INS l x).length = l.length + 1 := by rw [e, List.length_append, List.length_take, List.length_cons, List.length_drop]; omega
    rw [if_neg (show ¬ (((m : Int), false).2 = true) from Bool.false_ne_true), insG, if_pos ⟨by omega, by omega, by omega⟩, Int.toNat_natCast, ← e]
    by_cases h : K < ((l.length + 1 : Nat) : Int)
    · rw [if_pos h, if_pos hK]
    · rw [if_neg h, List.take_of_length_le (by omega)]
/-! ## Hash -/
def HS (s : ByteArray) : Nat → Nat → Int → Int
  | 0, _, h => wrap64 h
  | d + 1, i, h => HS s d (i + 1) (((Go.bits .xor .u32 h ((bt s i) % 4294967296)) * 16777619) % 4294967296)
def HASH (s : ByteArray) : Int := HS s s.size 0 2166136261
theorem hash_l0 (s : ByteArray) (hs : s.size ≤ 140737488351232) : ∀ (d i : Nat) (h : Int), i + d = s.size → Ev (fun k => labels_HashString.l0 k s h (i : Int)) (HS s d i h) := by
  intro d
  induction d with
  | zero => intro i h hd; exact Ev.step (fun k => by rw [labels_HashString.l0, if_neg (by omega)]; rfl) (Ev.now _)
  | succ d ih => intro i h hd; exact Ev.step (fun k => by rw [labels_HashString.l0, if_pos (by omega), if_pos (by omega), w1 (by omega)]) (ih (i + 1) _ (by omega))
theorem hash_ev (s : ByteArray) (hs : s.size ≤ 140737488351232) : Ev (fun k => labels_HashString.f k s) (HASH s) := hash_l0 s hs s.size 0 _ (by omega)
/-! ## Add -/
def ADD (K C : Int) (H : List Int) (s : ByteArray) : Int × Int × List Int × Int :=
  if OKK K C H then (if C = 1152921504606846976 then (0, 0, [], 4) else (K, C + 1, (INS H (HASH s)).take K.toNat, 0)) else (0, 0, [], 1)
theorem clone_is (l : List Int) (hl : l.length < 8796093022208) : clone_int.f l = some l := if_pos hl
theorem add_ev (K C : Int) (H : List Int) (s : ByteArray) (hl : H.length ≤ 17592186043904) (hs : s.size ≤ 140737488351232) : Ev (fun k => kmv_Add.f k K C H s) (ADD K C H s) := by
  simp only [kmv_Add.f]
  refine Ev.bind (check_ev K C H hl) ?_
  unfold CK ADD
  by_cases h : OKK K C H
  · rw [if_pos h, if_pos h]
    refine Ev.congr (fun k => if_pos rfl) ?_
    by_cases hc : C = 1152921504606846976
    · rw [if_pos hc]; exact Ev.congr (fun k => if_pos hc) (Ev.now _)
    · rw [if_neg hc]
      have h2 := h.1; have h3 := h.2.1; have h4 := h.2.2.1; have h5 := h.2.2.2.1; have h6 := h.len
      refine Ev.congr (fun k => (if_neg hc).trans (by rw [clone_is H (by omega), Option.bind_some])) ?_
      refine Ev.bind (hash_ev s hs) ?_
      refine Ev.bind (insert_ev H _ K hl h.so (by omega) h6) ?_
      rw [show wrap64 (C + 1) = C + 1 by unfold wrap64; omega]
      exact Ev.now _
  · rw [if_neg h, if_neg h]
    exact Ev.congr (fun k => if_neg (by decide)) (Ev.now _)
/-! ## Same -/
theorem same_l0 (a : List Int) (hn : a.length < 140737488355327) : ∀ (d i : Nat), i + d = a.length → Ev (fun k => lookoutref01_Same.l0 k a a (i : Int)) true := by
  intro d
  induction d with
  | zero => intro i h; exact Ev.step (fun k => by rw [lookoutref01_Same.l0, if_neg (by omega)]) (Ev.now _)
  | succ d ih => intro i h; exact Ev.step (fun k => by rw [lookoutref01_Same.l0, if_pos (by omega), if_pos (by omega), if_pos (by omega), if_pos rfl, w1 (by omega)]) (ih (i + 1) (by omega))
theorem same01 (a : List Int) (h : a.length < 140737488355327) : Ev (fun k => lookoutref01_Same.f k a a) true := by
  simp only [lookoutref01_Same.f, if_pos]; exact same_l0 a h a.length 0 (by omega)
theorem same30 (K C : Int) (a : List Int) (h : a.length < 140737488355327) : Ev (fun k => lookoutref30_Same.f k K C a K C a) true := by
  simp only [lookoutref30_Same.f, if_pos]; exact Ev.bind (same01 a h) (Ev.now _)
theorem ADD_len (K C : Int) (H : List Int) (s : ByteArray) (hl : H.length ≤ 17592186043904) : (ADD K C H s).2.2.1.length ≤ 17592186043904 := by
  unfold ADD
  split
  · rename_i h
    split
    · simp
    · have := h.2.1; have := ins_len H (HASH s)
      simp only [List.length_take]; omega
  · simp
/-! ## The example -/
theorem awake_ev : Ev (fun k => lookoutlaw30_awake.f k) true := by
  unfold lookoutlaw30_awake.f
  have ha : HASH ⟨#[97]⟩ = 3826002220 := by decide +kernel
  have hb : HASH ⟨#[98]⟩ = 3876335077 := by decide +kernel
  have e1 : ADD 2 0 [] ⟨#[97]⟩ = (2, 1, [3826002220], 0) := by unfold ADD; rw [ha]; decide +kernel
  have e2 : ADD 2 1 [3826002220] ⟨#[98]⟩ = (2, 2, [3826002220, 3876335077], 0) := by unfold ADD; rw [hb]; decide +kernel
  have e3 : ADD 2 2 [3826002220, 3876335077] ⟨#[97]⟩ = (2, 3, [3826002220, 3876335077], 0) := by unfold ADD; rw [ha]; decide +kernel
  have hof : Ev (fun k => lookoutlaw30_of.f k 2 ([(⟨#[97]⟩ : ByteArray), (⟨#[98]⟩ : ByteArray), (⟨#[97]⟩ : ByteArray)] : List ByteArray)) (2, 3, [3826002220, 3876335077], 0) := by
    refine Ev.congr (f := fun k => lookoutlaw30_of.l0 k 0 ([(⟨#[97]⟩ : ByteArray), (⟨#[98]⟩ : ByteArray), (⟨#[97]⟩ : ByteArray)] : List ByteArray) 3 0 2 0 []) (fun k => rfl) ?_
    refine Ev.step (f := fun k => (kmv_Add.f k 2 0 [] ⟨#[97]⟩).bind fun bt139 => (lookoutlaw30_of.l0 k bt139.2.2.2 [(⟨#[97]⟩ : ByteArray), (⟨#[98]⟩ : ByteArray), (⟨#[97]⟩ : ByteArray)] 3 1 bt139.1 bt139.2.1 bt139.2.2.1)) (fun k => by rw [lookoutlaw30_of.l0, if_pos (by omega), if_pos (by omega), if_pos (by show (0 : Int) < 3; omega), if_pos rfl, show wrap64 (0 + 1) = 1 by unfold wrap64; omega]; rfl) ?_
    have a1 := add_ev 2 0 [] ⟨#[97]⟩ (by simp) (by show 1 ≤ 140737488351232; omega)
    rw [e1] at a1
    refine Ev.bind a1 ?_
    refine Ev.step (f := fun k => (kmv_Add.f k 2 1 [3826002220] ⟨#[98]⟩).bind fun bt139 => (lookoutlaw30_of.l0 k bt139.2.2.2 [(⟨#[97]⟩ : ByteArray), (⟨#[98]⟩ : ByteArray), (⟨#[97]⟩ : ByteArray)] 3 2 bt139.1 bt139.2.1 bt139.2.2.1)) (fun k => by rw [lookoutlaw30_of.l0, if_pos (by omega), if_pos (by omega), if_pos (by show (1 : Int) < 3; omega), if_pos rfl, show wrap64 (1 + 1) = 2 by unfold wrap64; omega]; rfl) ?_
    have a2 := add_ev 2 1 [3826002220] ⟨#[98]⟩ (by simp) (by show 1 ≤ 140737488351232; omega)
    rw [e2] at a2
    refine Ev.bind a2 ?_
    refine Ev.step (f := fun k => (kmv_Add.f k 2 2 [3826002220, 3876335077] ⟨#[97]⟩).bind fun bt139 => (lookoutlaw30_of.l0 k bt139.2.2.2 [(⟨#[97]⟩ : ByteArray), (⟨#[98]⟩ : ByteArray), (⟨#[97]⟩ : ByteArray)] 3 3 bt139.1 bt139.2.1 bt139.2.2.1)) (fun k => by rw [lookoutlaw30_of.l0, if_pos (by omega), if_pos (by omega), if_pos (by show (2 : Int) < 3; omega), if_pos rfl, show wrap64 (2 + 1) = 3 by unfold wrap64; omega]; rfl) ?_
    have a3 := add_ev 2 2 [3826002220, 3876335077] ⟨#[97]⟩ (by simp) (by show 1 ≤ 140737488351232; omega)
    rw [e3] at a3
    refine Ev.bind a3 ?_
    exact Ev.step (fun k => by rw [lookoutlaw30_of.l0, if_neg (by omega)]) (Ev.now _)
  refine Ev.bind hof ?_
  have hck : CK 2 3 [3826002220, 3876335077] = 0 := by decide +kernel
  have hce := check_ev 2 3 [3826002220, 3876335077] (by simp)
  rw [hck] at hce
  have hbd : Ev (fun k => kmv_Bounds.f k 2 3 [3826002220, 3876335077]) (2, 3, 0) := Ev.bind hce (Ev.now _)
  refine Ev.bind hbd ?_
  have hes : Ev (fun k => kmv_Estimate.f k 2 3 [3826002220, 3876335077]) (2, 0) := Ev.bind hce (Ev.congr (fun k => by decide +kernel) (Ev.now _))
  refine Ev.bind hes ?_
  refine Ev.congr (f := fun k => (lookoutref01_Same.f k [3826002220, 3876335077] [3826002220, 3876335077]).bind fun t163 => (if t163 = true then some true else none)) (fun k => rfl) ?_
  exact Ev.bind (same01 _ (by simp)) (Ev.now _)
/-- The end of a statement: the chapter's example. -/
theorem awake_end : Ev (fun k => (lookoutlaw30_awake.f k).bind fun t => (some t)) true := Ev.bind awake_ev (Ev.now _)
end Go.Proofs.Ythblifjeecdhcaa.KB
end
section
namespace Go.Proofs.Ythblifjeecdhcaa.KB
open Go.RowKit Go.Proofs.Ythblifjeecdhcaa.A Go.Proofs.Ythblifjeecdhcaa.P Go.Proofs.Ythblifjeecdhcaa.Hand Go.Proofs.YthblifjeecdhcaaW.PrintWords Go.Proofs.YthblifjeecdhcaaW.PrintLast Go.Proofs.YthblifjeecdhcaaW.PrintMore
set_option linter.unusedVariables false
set_option linter.unusedSimpArgs false
def MERGE (K C : Int) (G : List Int) (L D : Int) (H : List Int) : Int × Int × List Int × Int :=
  if OKK K C G then (if OKK L D H then (if K = L then (if 1152921504606846976 < C + D then (0, 0, [], 4) else (K, C + D, MG K.toNat G H, 0)) else (0, 0, [], 10)) else (0, 0, [], 1)) else (0, 0, [], 1)
theorem MG_step (n : Nat) (a b : List Int) (i : Nat) (h : i < b.length) : MG n a (b.take (i + 1)) = (INS (MG n a (b.take i)) b[i]).take n := by
  unfold MG
  rw [List.take_succ_eq_append_getElem h, List.foldl_append]; rfl
theorem merge_l0 (K C : Int) (G : List Int) (L D : Int) (H : List Int) (hG : OKK K C G) (hH : H.length ≤ 1000) : ∀ (d i : Nat), i + d = H.length → Ev (fun k => kmv_Merge.l0 k (MG K.toNat G (H.take i)) H (H.length : Int) (i : Int) K C G L D H) (K, wrap64 (C + D), MG K.toNat G H, 0) := by
  have h1 := hG.1; have h2 := hG.2.1
  intro d
  induction d with
  | zero => intro i h; rw [List.take_of_length_le (by omega)]; exact Ev.step (fun k => by rw [kmv_Merge.l0, if_neg (by omega)]) (Ev.now _)
  | succ d ih =>
    intro i h
    have hi : i < H.length := by omega
    have hl := MG_len (H.take i) K.toNat hG.len
    have hs := MG_so hG.so (H.take i) K.toNat hG.len
    have ins := insert_ev (MG K.toNat G (H.take i)) H[i] K (by omega) hs (by omega) hl
    rw [← MG_step K.toNat G H i hi] at ins
    refine Ev.step (fun k => by rw [kmv_Merge.l0, if_pos (by omega), if_pos (by omega), if_pos (by omega), rdI hi, w1 (by omega)]) ?_
    exact Ev.bind ins (ih (i + 1) (by omega))
theorem merge_ev (K C : Int) (G : List Int) (L D : Int) (H : List Int) (hg : G.length ≤ 17592186043904) (hh : H.length ≤ 17592186043904) : Ev (fun k => kmv_Merge.f k K C G L D H) (MERGE K C G L D H) := by
  simp only [kmv_Merge.f]
  refine Ev.bind (check_ev K C G hg) ?_
  have bad : Ev (fun k => kmv_Merge.j0 k true K C G L D H) (0, 0, [], 1) := Ev.step (fun k => by rw [kmv_Merge.j0, if_pos rfl]) (Ev.now _)
  unfold MERGE
  by_cases h : OKK K C G
  · rw [if_pos h, show CK K C G = 0 from if_pos h]
    refine Ev.congr (fun k => if_pos rfl) ?_
    refine Ev.bind (check_ev L D H hh) ?_
    by_cases h' : OKK L D H
    · rw [if_pos h', show CK L D H = 0 from if_pos h']
      refine Ev.step (fun k => by rw [kmv_Merge.j0, if_neg (by decide)]) ?_
      by_cases e : K = L
      · rw [if_pos e]
        refine Ev.congr (fun k => if_pos e) ?_
        have a1 := h.2.2.1; have a2 := h.2.2.2.1; have b1 := h'.2.2.1; have b2 := h'.2.2.2.1; have b3 := h'.len; have b4 := h'.2.1; have a3 := h.len; have a4 := h.2.1
        have hw : wrap64 (C + D) = C + D := by unfold wrap64; omega
        rw [hw]
        by_cases hc : 1152921504606846976 < C + D
        · rw [if_pos hc]; exact Ev.congr (fun k => if_pos hc) (Ev.now _)
        · rw [if_neg hc]
          have hl := merge_l0 K C G L D H h (by omega) H.length 0 (by omega)
          rw [hw] at hl
          exact Ev.congr (fun k => (if_neg hc).trans (by rw [clone_is G (by omega), Option.bind_some]; rfl)) hl
      · rw [if_neg e]; exact Ev.congr (fun k => if_neg e) (Ev.now _)
    · rw [if_neg h', show CK L D H = 1 from if_neg h']; exact bad
  · rw [if_neg h, show CK K C G = 1 from if_neg h]; exact Ev.congr (fun k => if_neg (by decide)) bad
theorem MERGE_len (K C : Int) (G : List Int) (L D : Int) (H : List Int) : (MERGE K C G L D H).2.2.1.length ≤ 1000 := by
  unfold MERGE
  split
  · rename_i h
    split
    · split
      · split
        · simp
        · have := MG_len H K.toNat h.len; have := h.2.1; dsimp only; omega
      · simp
    · simp
  · simp
end Go.Proofs.Ythblifjeecdhcaa.KB
end
section
namespace Go.Proofs.Ythblifjeecdhcaa.KB
open Go.RowKit Go.Proofs.Ythblifjeecdhcaa.A Go.Proofs.Ythblifjeecdhcaa.P Go.Proofs.Ythblifjeecdhcaa.Hand Go.Proofs.YthblifjeecdhcaaW.PrintWords Go.Proofs.YthblifjeecdhcaaW.PrintLast Go.Proofs.YthblifjeecdhcaaW.PrintMore
set_option linter.unusedVariables false
set_option linter.unusedSimpArgs false
theorem compactI_spec (zs : List Int) (h : zs.Pairwise (fun x y => x ≤ y)) : (Lib.compact zs).Pairwise (fun x y => x < y) ∧ ∀ z, z ∈ Lib.compact zs ↔ z ∈ zs := by
  have at_ : ∀ i (hi : i < zs.length), zs.toArray[i]! = zs[i] := fun i hi => by simp [hi]
  constructor
  · unfold Lib.compact Lib.compactUpTo
    rw [List.pairwise_map, List.pairwise_filter]
    refine List.Pairwise.imp_of_mem (R := fun a b => a < b) (fun {a b} ha hb hlt _ hk => ?_) List.pairwise_lt_range
    have hb' := List.mem_range.1 hb
    rw [at_ a (by omega), at_ b hb']
    have hne : zs[b] ≠ zs[b - 1] := by
      simp only [Lib.keeps] at hk
      rw [at_ b hb', at_ (b - 1) (by omega)] at hk
      have : b ≠ 0 := by omega
      simpa [this] using hk
    have h1 : zs[a] ≤ zs[b - 1] := by
      rcases Nat.lt_or_ge a (b - 1) with h' | h'
      · exact List.pairwise_iff_getElem.1 h a (b - 1) (by omega) (by omega) h'
      · have e : a = b - 1 := by omega
        subst e; exact Int.le_refl _
    have h2 : zs[b - 1] ≤ zs[b] := List.pairwise_iff_getElem.1 h (b - 1) b (by omega) (by omega) (by omega)
    have h3 : zs[b - 1] < zs[b] := by
      omega
    omega
  · intro z
    unfold Lib.compact Lib.compactUpTo
    rw [List.mem_map]
    constructor
    · rintro ⟨i, hi, rfl⟩
      have := List.mem_range.1 (List.mem_filter.1 hi).1
      rw [at_ i this]; exact List.getElem_mem _
    · intro hz
      obtain ⟨i, hi, rfl⟩ := List.getElem_of_mem hz
      have key : ∀ n i (hi : i < zs.length), i ≤ n → ∃ j, j < zs.length ∧ Lib.keeps zs.toArray j = true ∧ zs.toArray[j]! = zs[i] := by
        intro n
        induction n with
        | zero =>
          intro i hi h0
          exact ⟨i, hi, by have : i = 0 := by omega
                           subst this; simp [Lib.keeps], at_ i hi⟩
        | succ n ih =>
          intro i hi h0
          by_cases hk : Lib.keeps zs.toArray i = true
          · exact ⟨i, hi, hk, at_ i hi⟩
          · have hpos : 0 < i := by
              rcases Nat.eq_zero_or_pos i with e | e
              · subst e; simp [Lib.keeps] at hk
              · exact e
            have heq : zs[i] = zs[i - 1] := by
              simp only [Lib.keeps] at hk
              rw [at_ i hi, at_ (i - 1) (by omega)] at hk
              have : i ≠ 0 := by omega
              simpa [this] using hk
            obtain ⟨j, h1, h2, h3⟩ := ih (i - 1) (by omega) (by omega)
            exact ⟨j, h1, h2, h3.trans heq.symm⟩
      obtain ⟨j, h1, h2, h3⟩ := key i i hi (Nat.le_refl _)
      exact ⟨j, List.mem_filter.2 ⟨List.mem_range.2 h1, h2⟩, h3⟩
theorem sortI_le (l : List Int) : (sortI l).Pairwise (fun x y => x ≤ y) := by
  have h := List.pairwise_mergeSort (le := fun x y : Int => decide (x ≤ y)) (fun a b c h1 h2 => by simp only [decide_eq_true_eq] at *; omega) (fun a b => by simp only [Bool.or_eq_true, decide_eq_true_eq]; omega) l
  exact h.imp (fun h => of_decide_eq_true h)
theorem hashes_is (l : List Int) : compI (sortI l) = U [] l := by
  obtain ⟨h1, h2⟩ := compactI_spec (sortI l) (sortI_le l)
  refine so_ext _ _ h1 (U_so l [] List.Pairwise.nil) (fun x => ?_)
  rw [U_mem]
  refine (h2 x).trans ?_
  unfold sortI
  rw [List.mem_mergeSort]
  simp
theorem HS_in (s : ByteArray) : ∀ (d i : Nat) (h : Int), 0 ≤ h → h < 4294967296 → 0 ≤ HS s d i h ∧ HS s d i h < 4294967296
  | 0, i, h, h0, h1 => by unfold HS wrap64; omega
  | d + 1, i, h, h0, h1 => by
    unfold HS
    exact HS_in s d (i + 1) _ (by omega) (by omega)
theorem HASH_in (s : ByteArray) : 0 ≤ HASH s ∧ HASH s < 4294967296 := HS_in s s.size 0 _ (by omega) (by omega)
def hsh (l : List ByteArray) : List Int := l.map HASH
theorem rdB {l : List ByteArray} {i : Nat} (h : i < l.length) : rdOf ByteArray.empty l (i : Int) = l[i] := by simp [rdOf, List.getD, List.getElem?_eq_getElem h]
theorem one_ok {K x : Int} (h1 : 1 ≤ K) (h2 : K ≤ 1000) (h0 : 0 ≤ x) (h3 : x < 4294967296) : OKK K 1 [x] := by
  refine ⟨h1, h2, by omega, by omega, by simp; omega, by simp, by simp, ?_⟩
  rw [ckS_iff _ _ (by omega)]
  refine ⟨fun y hy => ?_, fun y hy => ?_, by simp [SO]⟩ <;> (rw [List.mem_singleton] at hy; omega)
theorem nil_ok {K : Int} (h1 : 1 ≤ K) (h2 : K ≤ 1000) : OKK K 0 [] := by
  refine ⟨h1, h2, by omega, by omega, by simp; omega, by simp, by simp, ?_⟩
  rw [ckS_iff _ _ (by omega)]
  exact ⟨by simp, by simp, List.Pairwise.nil⟩
theorem of_ok {K : Int} (h1 : 1 ≤ K) (h2 : K ≤ 1000) (l : List ByteArray) (hl : l.length ≤ 1000) : ∀ i : Nat, i ≤ l.length → OKK K (i : Int) (MG K.toNat [] ((hsh l).take i)) := by
  intro i
  induction i with
  | zero => intro _; exact nil_ok h1 h2
  | succ i ih =>
    intro hi
    have hlt : i < (hsh l).length := by unfold hsh; rw [List.length_map]; omega
    have hx := HASH_in l[i]
    have e : (hsh l)[i] = HASH l[i] := by simp [hsh]
    have := (ih (by omega)).merge (one_ok h1 h2 (x := (hsh l)[i]) (by rw [e]; exact hx.1) (by rw [e]; exact hx.2)) (by omega)
    rw [MG_step _ _ _ _ hlt]
    exact this
theorem of_l0 {K : Int} (h1 : 1 ≤ K) (h2 : K ≤ 1000) (l : List ByteArray) (hl : l.length ≤ 1000) (hw : ∀ x ∈ l, x.size ≤ 140737488351232) : ∀ (d i : Nat), i + d = l.length →
    Ev (fun k => lookoutlaw30_of.l0 k 0 l (l.length : Int) (i : Int) K (i : Int) (MG K.toNat [] ((hsh l).take i))) (K, (l.length : Int), MG K.toNat [] (hsh l), 0) := by
  have hh : (hsh l).length = l.length := by simp [hsh]
  intro d
  induction d with
  | zero =>
    intro i h
    rw [List.take_of_length_le (by omega), show (l.length : Int) = (i : Int) by omega]
    exact Ev.step (fun k => by rw [lookoutlaw30_of.l0, if_neg (by omega)]) (Ev.now _)
  | succ d ih =>
    intro i h
    have hi : i < l.length := by omega
    have ho := of_ok h1 h2 l hl i (by omega)
    have hn := ho.len
    have ha := add_ev K (i : Int) (MG K.toNat [] ((hsh l).take i)) l[i] (by omega) (hw _ (List.getElem_mem hi))
    have e : (hsh l)[i]'(by omega) = HASH l[i] := by simp [hsh]
    rw [show ADD K (i : Int) (MG K.toNat [] ((hsh l).take i)) l[i] = (K, ((i + 1 : Nat) : Int), MG K.toNat [] ((hsh l).take (i + 1)), 0) by
      unfold ADD; rw [if_pos ho, if_neg (by omega), MG_step _ _ _ _ (by omega : i < (hsh l).length), e]; rfl] at ha
    refine Ev.step (fun k => by rw [lookoutlaw30_of.l0, if_pos (by omega), if_pos (by omega), if_pos (by omega), if_pos rfl, rdB hi, w1 (by omega)]) ?_
    exact Ev.bind ha (ih (i + 1) (by omega))
theorem of_ev {K : Int} (h1 : 1 ≤ K) (h2 : K ≤ 1000) (l : List ByteArray) (hl : l.length ≤ 1000) (hw : ∀ x ∈ l, x.size ≤ 140737488351232) : Ev (fun k => lookoutlaw30_of.f k K l) (K, (l.length : Int), MG K.toNat [] (hsh l), 0) := by
  have := of_l0 h1 h2 l hl hw l.length 0 (by omega)
  unfold lookoutlaw30_of.f
  exact Ev.congr (fun k => by rw [show kmv_New.f K = some (K, 0, [], 0) by unfold kmv_New.f; rw [if_neg (by omega), if_neg (by omega)], Option.bind_some]; rfl) this
theorem of_all {K : Int} (h1 : 1 ≤ K) (h2 : K ≤ 1000) (l : List ByteArray) (hl : l.length ≤ 1000) : OKK K (l.length : Int) (MG K.toNat [] (hsh l)) := by
  have := of_ok h1 h2 l hl l.length (Nat.le_refl _)
  rwa [List.take_of_length_le (by simp [hsh])] at this
theorem long_is (l : List ByteArray) : ∃ b, lookoutlaw30_long.f l = some b ∧ (b = false → l.length ≤ 40) := by
  unfold lookoutlaw30_long.f
  by_cases c : (l.length : Int) > 40
  · exact ⟨true, if_pos c, fun h => by cases h⟩
  · obtain ⟨b, hb⟩ : ∃ b, contains_long.f l = some b := ⟨_, rfl⟩
    exact ⟨b, by rw [if_neg c, hb, Option.bind_some], fun _ => by omega⟩
theorem u8_wf {x : Int} (h : (Lit.int .u8 x).wf = true) : 0 ≤ x ∧ x ≤ 255 := by
  have h1 : IntKind.u8.min = 0 := rfl
  have h2 : IntKind.u8.max = 255 := rfl
  simp [Lit.wf, h1, h2] at h
  exact ⟨h.1, by omega⟩
end Go.Proofs.Ythblifjeecdhcaa.KB
end
