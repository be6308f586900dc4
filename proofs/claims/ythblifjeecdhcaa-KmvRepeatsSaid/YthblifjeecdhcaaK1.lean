/- Plain facts on ascending lists of numbers: insert in order, the smallest K, folds of inserts. No program in sight, no condition beyond those in the statements. -/
import Derived.Test.YthblifjeecdhcaaWMore
namespace Go.Proofs.Ythblifjeecdhcaa.KB
open Go.RowKit Go.Proofs.YthblifjeecdhcaaW.PrintWords Go.Proofs.YthblifjeecdhcaaW.PrintMore
set_option linter.unusedVariables false
set_option linter.unusedSimpArgs false
theorem w1 {i : Nat} (h : i < 140737488355328) : wrap64 ((i : Int) + 1) = ((i + 1 : Nat) : Int) := by unfold wrap64; omega
theorem rdI {l : List Int} {i : Nat} (h : i < l.length) : rd l (i : Int) = l[i] := by simp [rd, List.getD, List.getElem?_eq_getElem h]
theorem dropI {l : List Int} {i : Nat} (h : i < l.length) : l.drop i = l[i] :: l.drop (i + 1) := List.drop_eq_getElem_cons h
abbrev SO (l : List Int) : Prop := l.Pairwise (· < ·)
/-- Two strictly ascending lists with the same numbers are the same. -/
theorem so_ext : ∀ (a b : List Int), SO a → SO b → (∀ x, x ∈ a ↔ x ∈ b) → a = b
  | [], [], _, _, _ => rfl
  | [], y :: b, _, _, h => by have := (h y).2 (by simp); simp at this
  | x :: a, [], _, _, h => by have := (h x).1 (by simp); simp at this
  | x :: a, y :: b, ha, hb, h => by
    unfold SO at ha hb
    rw [List.pairwise_cons] at ha hb
    have hxy : x = y := by
      have h1 := (h x).1 (by simp)
      have h2 := (h y).2 (by simp)
      rcases List.mem_cons.1 h1 with h1 | h1
      · exact h1
      · rcases List.mem_cons.1 h2 with h2 | h2
        · exact h2.symm
        · have := hb.1 x h1; have := ha.1 y h2; omega
    subst hxy
    rw [so_ext a b ha.2 hb.2 (fun z => by
      constructor
      · intro hz
        have := ha.1 z hz
        rcases List.mem_cons.1 ((h z).1 (by simp [hz])) with rfl | h'
        · omega
        · exact h'
      · intro hz
        have := hb.1 z hz
        rcases List.mem_cons.1 ((h z).2 (by simp [hz])) with rfl | h'
        · omega
        · exact h')]
def INS : List Int → Int → List Int
  | [], x => [x]
  | y :: r, x => if y < x then y :: INS r x else if y = x then y :: r else x :: y :: r
theorem ins_mem : ∀ (l : List Int) (x z : Int), z ∈ INS l x ↔ z = x ∨ z ∈ l
  | [], x, z => by simp [INS]
  | y :: r, x, z => by
    unfold INS
    split
    · rw [List.mem_cons, ins_mem r x z, List.mem_cons]; constructor <;> (intro h; rcases h with h | h | h <;> simp [h])
    · split
      · subst_vars; simp
      · simp
theorem ins_so : ∀ (l : List Int) (x : Int), SO l → SO (INS l x)
  | [], x, _ => by simp [INS, SO]
  | y :: r, x, h => by
    have h' := List.pairwise_cons.1 h
    unfold INS
    split
    · refine List.pairwise_cons.2 ⟨fun z hz => ?_, ins_so r x h'.2⟩
      rcases (ins_mem r x z).1 hz with rfl | hz
      · assumption
      · exact h'.1 z hz
    · split
      · exact h
      · refine List.pairwise_cons.2 ⟨fun z hz => ?_, h⟩
        rcases List.mem_cons.1 hz with rfl | hz
        · omega
        · have := h'.1 z hz; omega
theorem ins_in {l : List Int} {x : Int} (h : SO l) (hx : x ∈ l) : INS l x = l :=
  so_ext _ _ (ins_so l x h) h (fun z => by
    rw [ins_mem]
    exact ⟨fun h => h.elim (fun h => by rw [h]; exact hx) id, .inr⟩)
theorem ins_len : ∀ (l : List Int) (x : Int), (INS l x).length ≤ l.length + 1
  | [], x => by simp [INS]
  | y :: r, x => by
    unfold INS
    split
    · have := ins_len r x; simp; omega
    · split <;> simp
theorem ins_len' : ∀ (l : List Int) (x : Int), l.length ≤ (INS l x).length
  | [], x => by simp [INS]
  | y :: r, x => by
    unfold INS
    split
    · have := ins_len' r x; simp; omega
    · split <;> simp
/-- The smallest `n` of a list with one more number, from the smallest `n` of the list. -/
theorem take_ins : ∀ (l : List Int) (x : Int) (n : Nat), (INS (l.take n) x).take n = (INS l x).take n
  | [], x, n => by simp
  | y :: r, x, 0 => by simp
  | y :: r, x, n + 1 => by
    rw [List.take_succ_cons]
    unfold INS
    split
    · rw [List.take_succ_cons, List.take_succ_cons, take_ins r x n]
    · split
      · simp [List.take_take]
      · rw [List.take_succ_cons, List.take_succ_cons]
        cases n with
        | zero => simp
        | succ n => simp [List.take_take]
def U (a b : List Int) : List Int := b.foldl INS a
def MG (n : Nat) (a b : List Int) : List Int := b.foldl (fun s x => (INS s x).take n) a
theorem U_mem : ∀ (b a : List Int) (z : Int), z ∈ U a b ↔ z ∈ a ∨ z ∈ b
  | [], a, z => by simp [U]
  | x :: b, a, z => by
    have := U_mem b (INS a x) z
    unfold U at this ⊢
    rw [List.foldl_cons, this, ins_mem, List.mem_cons]
    constructor <;> (intro h; rcases h with h | h <;> first | (rcases h with h | h <;> simp [h]) | simp [h])
theorem U_so : ∀ (b a : List Int), SO a → SO (U a b)
  | [], a, h => h
  | x :: b, a, h => by
    have := U_so b (INS a x) (ins_so a x h)
    unfold U at this ⊢
    rw [List.foldl_cons]; exact this
theorem U_comm {a b : List Int} (ha : SO a) (hb : SO b) : U a b = U b a := so_ext _ _ (U_so b a ha) (U_so a b hb) (fun z => by rw [U_mem, U_mem]; exact Or.comm)
theorem U_assoc {a b c : List Int} (ha : SO a) (hb : SO b) : U (U a b) c = U a (U b c) :=
  so_ext _ _ (U_so c _ (U_so b a ha)) (U_so _ _ ha) (fun z => by rw [U_mem, U_mem, U_mem, U_mem]; exact or_assoc)
theorem MG_take : ∀ (b a : List Int) (n : Nat), MG n (a.take n) b = (U a b).take n
  | [], a, n => rfl
  | x :: b, a, n => by
    have := MG_take b (INS a x) n
    unfold MG U at this ⊢
    rw [List.foldl_cons, List.foldl_cons, take_ins, this]
theorem MG_is {a : List Int} {n : Nat} (h : a.length ≤ n) (b : List Int) : MG n a b = (U a b).take n := by
  have := MG_take b a n
  rwa [List.take_of_length_le h] at this
theorem take_so {l : List Int} (h : SO l) (n : Nat) : SO (l.take n) := h.sublist (List.take_sublist n l)
theorem MG_so {a : List Int} (h : SO a) : ∀ (b : List Int) (n : Nat), a.length ≤ n → SO (MG n a b) := fun b n hn => by rw [MG_is hn]; exact take_so (U_so b a h) n
theorem MG_len {a : List Int} (b : List Int) (n : Nat) (hn : a.length ≤ n) : (MG n a b).length ≤ n := by rw [MG_is hn, List.length_take]; omega
theorem MG_comm {a b : List Int} {n : Nat} (ha : SO a) (hb : SO b) (h1 : a.length ≤ n) (h2 : b.length ≤ n) : MG n a b = MG n b a := by rw [MG_is h1, MG_is h2, U_comm ha hb]
theorem take_U_left {a b : List Int} {n : Nat} : (U (a.take n) b).take n = (U a b).take n := by
  rw [← MG_take b a n, MG_is (by rw [List.length_take]; omega)]
theorem take_U_right {a b : List Int} {n : Nat} (ha : SO a) (hb : SO b) : (U a (b.take n)).take n = (U a b).take n := by
  rw [U_comm ha (take_so hb n), take_U_left, U_comm hb ha]
theorem MG_assoc {a b c : List Int} {n : Nat} (ha : SO a) (hb : SO b) (hc : SO c) (h1 : a.length ≤ n) (h2 : b.length ≤ n) (h3 : c.length ≤ n) : MG n (MG n a b) c = MG n a (MG n b c) := by
  rw [MG_is (MG_len b n h1), MG_is h1, MG_is h1, MG_is h2, take_U_left, take_U_right ha (U_so c b hb), U_assoc ha hb]
theorem U_len : ∀ (b a : List Int), (U a b).length ≤ a.length + b.length
  | [], a => by simp [U]
  | x :: b, a => by
    have := U_len b (INS a x)
    have := ins_len a x
    unfold U at *
    rw [List.foldl_cons, List.length_cons]; omega
theorem U_len' : ∀ (b a : List Int), a.length ≤ (U a b).length
  | [], a => by simp [U]
  | x :: b, a => by
    have := U_len' b (INS a x)
    have := ins_len' a x
    unfold U at *
    rw [List.foldl_cons]; omega
/-- Adding a number twice. -/
theorem ins_twice {l : List Int} {x : Int} {n : Nat} (h : SO l) : (INS ((INS l x).take n) x).take n = (INS l x).take n := by
  rw [take_ins, ins_in (ins_so l x h) ((ins_mem l x x).2 (.inl rfl))]
/-- Where a number goes. -/
theorem ins_at : ∀ (l : List Int) (x : Int) (i : Nat), SO l → i ≤ l.length → (∀ t, (h : t < l.length) → t < i → l[t] < x) → (∀ t, (h : t < l.length) → i ≤ t → x < l[t]) → INS l x = l.take i ++ x :: l.drop i
  | [], x, i, _, h, _, _ => by simp at h; subst h; rfl
  | y :: r, x, i, hs, h, h1, h2 => by
    unfold INS
    cases i with
    | zero =>
      have := h2 0 (by simp) (by omega)
      simp at this
      rw [if_neg (by omega), if_neg (by omega)]; rfl
    | succ i =>
      have := h1 0 (by simp) (by omega)
      simp at this
      rw [if_pos this, ins_at r x i (List.pairwise_cons.1 hs).2 (by simpa using h) (fun t ht hi => by have := h1 (t + 1) (by simpa using ht) (by omega); simpa using this) (fun t ht hi => by have := h2 (t + 1) (by simpa using ht) (by omega); simpa using this)]
      rfl
theorem so_lt {l : List Int} (h : SO l) {i j : Nat} (hij : i < j) (hj : j < l.length) : l[i] < l[j] := List.pairwise_iff_getElem.1 h i j (by omega) hj hij
/-! ## What Check tests -/
def ckS : Int → List Int → Bool
  | _, [] => true
  | q, x :: r => if x ≤ q then false else if 4294967296 ≤ x then false else ckS x r
theorem ckS_iff : ∀ (l : List Int) (q : Int), -1 ≤ q → (ckS q l = true ↔ (∀ x ∈ l, 0 ≤ x ∧ x < 4294967296) ∧ (∀ x ∈ l, q < x) ∧ SO l)
  | [], q, _ => by simp [ckS, SO]
  | x :: r, q, hq => by
    unfold ckS SO
    rw [List.pairwise_cons]
    by_cases h1 : x ≤ q
    · rw [if_pos h1]
      constructor
      · intro h; cases h
      · rintro ⟨_, h, _⟩; have := h x (by simp); omega
    · rw [if_neg h1]
      by_cases h2 : 4294967296 ≤ x
      · rw [if_pos h2]
        constructor
        · intro h; cases h
        · rintro ⟨h, _⟩; have := h x (by simp); omega
      · rw [if_neg h2, ckS_iff r x (by omega)]
        constructor
        · rintro ⟨a, b, c⟩
          refine ⟨fun y hy => ?_, fun y hy => ?_, b, c⟩
          · rcases List.mem_cons.1 hy with rfl | hy
            · omega
            · exact a y hy
          · rcases List.mem_cons.1 hy with rfl | hy
            · omega
            · have := b y hy; omega
        · rintro ⟨a, _, b, c⟩
          exact ⟨fun y hy => a y (by simp [hy]), b, c⟩
def OKK (K C : Int) (H : List Int) : Prop := 1 ≤ K ∧ K ≤ 1000 ∧ 0 ≤ C ∧ C ≤ 1152921504606846976 ∧ (H.length : Int) ≤ K ∧ (H.length : Int) ≤ C ∧ (H.length = 0 → C = 0) ∧ ckS (-1) H = true
instance (K C : Int) (H : List Int) : Decidable (OKK K C H) := by unfold OKK; infer_instance
theorem OKK.so {K C : Int} {H : List Int} (h : OKK K C H) : SO H := ((ckS_iff H (-1) (by omega)).1 h.2.2.2.2.2.2.2).2.2
theorem OKK.mem {K C : Int} {H : List Int} (h : OKK K C H) : ∀ x ∈ H, 0 ≤ x ∧ x < 4294967296 := ((ckS_iff H (-1) (by omega)).1 h.2.2.2.2.2.2.2).1
theorem OKK.len {K C : Int} {H : List Int} (h : OKK K C H) : H.length ≤ K.toNat := by have := h.1; have := h.2.2.2.2.1; omega
def CK (K C : Int) (H : List Int) : Int := if OKK K C H then 0 else 1
theorem CK_zero {K C : Int} {H : List Int} : CK K C H = 0 ↔ OKK K C H := by unfold CK; split <;> simp_all
/-- A sketch of two is a sketch. -/
theorem OKK.merge {K C D : Int} {G H : List Int} (hg : OKK K C G) (hh : OKK K D H) (hc : C + D ≤ 1152921504606846976) : OKK K (C + D) (MG K.toNat G H) := by
  have l1 := U_len H G
  have l2 := U_len' H G
  have e := MG_is hg.len H
  obtain ⟨a1, a2, a3, a4, a5, a6, a7, a8⟩ := hg
  obtain ⟨b1, b2, b3, b4, b5, b6, b7, b8⟩ := hh
  have hl : (MG K.toNat G H).length = min K.toNat (U G H).length := by rw [e, List.length_take]
  refine ⟨a1, a2, by omega, hc, by omega, by omega, fun h => ?_, ?_⟩
  · have hn : (U G H).length = 0 := by omega
    have hH : H.length = 0 := by
      cases H with
      | nil => rfl
      | cons x r => have := (U_mem (x :: r) G x).2 (.inr (by simp)); rw [List.length_eq_zero_iff.1 hn] at this; simp at this
    have := a7 (by omega); have := b7 hH; omega
  · rw [ckS_iff _ _ (by omega)] at a8 b8 ⊢
    have hm : ∀ x ∈ MG K.toNat G H, x ∈ G ∨ x ∈ H := fun x hx => (U_mem H G x).1 (List.mem_of_mem_take (by rw [e] at hx; exact hx))
    refine ⟨fun x hx => (hm x hx).elim (a8.1 x) (b8.1 x), fun x hx => (hm x hx).elim (a8.2.1 x) (b8.2.1 x), by rw [e]; exact take_so (U_so H G a8.2.2) _⟩
end Go.Proofs.Ythblifjeecdhcaa.KB
