/- Plain facts on columns of strings: what Encode and the reference's Encode answer. No condition beyond those in the statements. -/
import Derived.Test.YtfklecicddpcjaaK1
import Derived.Test.YtfklecicddpcjaaKB
import Derived.Test.YtfklecicddpcjaaHR
namespace Go.Proofs.Ytfklecicddpcjaa.DK
open Go.RowKit Go.Proofs.Ytfklecicddpcjaa.VB Go.Proofs.Ytfklecicddpcjaa.A Go.Proofs.Ytfklecicddpcjaa.Hand Go.Proofs.YtfklecicddpcjaaW.PrintWords Go.Proofs.YtfklecicddpcjaaW.PrintLast Go.Proofs.YtfklecicddpcjaaW.PrintMore
set_option linter.unusedVariables false
set_option linter.unusedSimpArgs false
theorem w1 {i : Nat} (h : i < 140737488355328) : wrap64 ((i : Int) + 1) = ((i + 1 : Nat) : Int) := by unfold wrap64; omega
theorem w_in {n : Int} (h0 : -9223372036854775808 ≤ n) (h1 : n ≤ 9223372036854775807) : wrap64 n = n := by unfold wrap64; omega
theorem str_size (l : List Int) : (strOfNums l).size = l.length := by
  have : (bytesOf (strOfNums l)).length = l.length := by simp [bytesOf, strOfNums]
  rw [← this]; simp [bytesOf]
theorem str_nil (s : ByteArray) : s ++ strOfNums [] = s := by
  apply bytesOf_inj
  rw [bytesOf_append, bytesOf_nums (by simp), List.append_nil]
theorem bytes_len (s : ByteArray) : (bytesOf s).length = s.size := bytesOf_length s
theorem bytesOf_bl {a b : ByteArray} : bl a = bl b ↔ bytesOf a = bytesOf b := ⟨fun h => by rw [bl_inj h], fun h => by rw [bytesOf_inj h]⟩
/-! ### the longest common prefix -/
def cmL : List Int → List Int → Nat
  | x :: a, y :: b => if x = y then cmL a b + 1 else 0
  | _, _ => 0
theorem cmL_nil (b : List Int) : cmL [] b = 0 := by unfold cmL; rfl
theorem cmL_le : ∀ a b : List Int, cmL a b ≤ a.length ∧ cmL a b ≤ b.length
  | [], b => by rw [cmL_nil]; simp
  | x :: a, [] => by simp [cmL]
  | x :: a, y :: b => by
    have := cmL_le a b
    unfold cmL
    split <;> simp <;> omega
theorem common_l0 (a b : ByteArray) (ha : a.size < 140737488355328) : ∀ (d i k : Nat), a.size - i ≤ d → i ≤ a.size → d + 1 ≤ k → dictcol_common.l0 k a b (i : Int) = some (((i + cmL ((bytesOf a).drop i) ((bytesOf b).drop i) : Nat) : Int)) := by
  intro d
  induction d with
  | zero =>
    intro i k hd hi hk
    obtain ⟨k, rfl⟩ : ∃ j, k = j + 1 := ⟨k - 1, by omega⟩
    rw [dictcol_common.l0, if_neg (by omega), bytes_end a (by omega), cmL_nil]
    simp
  | succ d ih =>
    intro i k hd hi hk
    obtain ⟨k, rfl⟩ : ∃ j, k = j + 1 := ⟨k - 1, by omega⟩
    rw [dictcol_common.l0]
    by_cases c1 : i < a.size
    · rw [if_pos (by omega), bytes_drop a c1]
      by_cases c2 : i < b.size
      · rw [if_pos (by omega), if_pos (by omega), bytes_drop b c2, cmL]
        by_cases c3 : bt a (i : Int) = bt b (i : Int)
        · rw [if_pos c3, if_pos c3, w1 (by omega), ih (i + 1) k (by omega) (by omega) (by omega)]
          congr 1; omega
        · rw [if_neg c3, if_neg c3]; simp
      · rw [if_neg (by omega), bytes_end b (by omega)]
        simp [cmL]
    · rw [if_neg (by omega), bytes_end a (by omega), cmL_nil]
      simp
theorem common_same (a b : ByteArray) : ∀ (k : Nat) (i : Int), lookoutref10_common.l0 k a b i = dictcol_common.l0 k a b i := by
  intro k
  induction k with
  | zero => intro i; rfl
  | succ k ih => intro i; rw [lookoutref10_common.l0, dictcol_common.l0, ih]
theorem common_ev (a b : ByteArray) (ha : a.size < 140737488355328) : Ev (fun k => dictcol_common.f k a b) ((cmL (bytesOf a) (bytesOf b) : Nat) : Int) := ⟨a.size + 1, fun k hk => by
  have := common_l0 a b ha a.size 0 k (by omega) (by omega) hk
  simpa [dictcol_common.f] using this⟩
theorem commonRef_ev (a b : ByteArray) (ha : a.size < 140737488355328) : Ev (fun k => lookoutref10_common.f k a b) ((cmL (bytesOf a) (bytesOf b) : Nat) : Int) :=
  Ev.congr (fun k => by unfold lookoutref10_common.f; rw [common_same]; rfl) (common_ev a b ha)
/-! ### numbers -/
theorem num_ev (b : List Int) (n : Nat) (hn : n ≤ 1152921504606846976) (hb : b.length ≤ 100000000) : Ev (fun k => dictcol_appendNumber.f k b n) (b ++ G n) := by
  have a := append_ev ⟨#[]⟩ (n : Int) (by show 0 ≤ 4611686018427387904; omega)
  have e : AP ⟨#[]⟩ (n : Int) = (strOfNums (G n), 0) := by unfold AP; rw [if_neg (by omega), empty_append, Int.toNat_natCast]
  rw [e] at a
  refine Ev.bind a ?_
  have hg := G_len9 (n := n) (by omega)
  refine Ev.congr (fun k => ?_) (Ev.now _)
  rw [if_pos (by rw [str_size]; omega), bytesOf_nums (G_byte n)]
theorem numRef_ev (n : Nat) (hn : n ≤ 1152921504606846976) : Ev (fun k => lookoutref10_number.f k n) (strOfNums (G n)) := by
  have a := appendRef_ev ⟨#[]⟩ (n : Int) (by show 0 ≤ 4611686018427387904; omega)
  have e : AP ⟨#[]⟩ (n : Int) = (strOfNums (G n), 0) := by unfold AP; rw [if_neg (by omega), empty_append, Int.toNat_natCast]
  rw [e] at a
  exact Ev.bind a (Ev.now _)
/-! ### the dictionary's bytes -/
def dictB : List ByteArray → List Int → List Int
  | [], _ => []
  | s :: r, p => G (cmL p (bytesOf s)) ++ (G (s.size - cmL p (bytesOf s)) ++ ((bytesOf s).drop (cmL p (bytesOf s)) ++ dictB r (bytesOf s)))
def Small (d : List ByteArray) : Prop := ∀ s ∈ d, s.size ≤ 1000
theorem dictB_len : ∀ (d : List ByteArray) (p : List Int), Small d → (dictB d p).length ≤ 1018 * d.length
  | [], _, _ => by simp [dictB]
  | s :: r, p, h => by
    have hs := h s (by simp)
    have ih := dictB_len r (bytesOf s) (fun x hx => h x (by simp [hx]))
    have hc := (cmL_le p (bytesOf s)).2
    rw [bytes_len] at hc
    have g1 := G_len9 (n := cmL p (bytesOf s)) (by omega)
    have g2 := G_len9 (n := s.size - cmL p (bytesOf s)) (by omega)
    simp only [dictB, List.length_append, List.length_drop, bytes_len, List.length_cons]
    omega
theorem dict_ev : ∀ (d : List ByteArray) (bef : ByteArray) (b : List Int), Small d → bef.size ≤ 1000 → b.length + 1018 * d.length ≤ 90000000 → Ev (fun k => dictG k d bef b) (b ++ dictB d (bytesOf bef))
  | [], bef, b, _, _, _ => by simp only [dictB, List.append_nil]; exact Ev.now _
  | s :: r, bef, b, h, hb, hl => by
    have hs := h s (by simp)
    rw [List.length_cons] at hl
    have hc := (cmL_le (bytesOf bef) (bytesOf s)).2
    rw [bytes_len] at hc
    have hcm := common_ev bef s (by omega)
    generalize hC : cmL (bytesOf bef) (bytesOf s) = c at hc hcm
    have g1 := G_len9 (n := c) (by omega)
    have g2 := G_len9 (n := s.size - c) (by omega)
    have ih := dict_ev r s (b ++ G c ++ G (s.size - c) ++ (bytesOf s).drop c) (fun x hx => h x (by simp [hx])) hs (by simp only [List.length_append, List.length_drop, bytes_len]; omega)
    have e : b ++ G c ++ G (s.size - c) ++ (bytesOf s).drop c ++ dictB r (bytesOf s) = b ++ dictB (s :: r) (bytesOf bef) := by
      simp only [dictB, hC, List.append_assoc]
    rw [e] at ih
    refine Ev.bind hcm ?_
    refine Ev.bind (num_ev b c (by omega) (by omega)) ?_
    have h2 := num_ev (b ++ G c) (s.size - c) (by omega) (by rw [List.length_append]; omega)
    refine Ev.bind (a := b ++ G c ++ G (s.size - c)) (Ev.congr (fun k => by rw [w_in (by omega) (by omega), show (s.size : Int) - (c : Int) = ((s.size - c : Nat) : Int) by omega]) h2) ?_
    refine Ev.congr (fun k => ?_) ih
    rw [if_pos ⟨by omega, by omega, by simp only [List.length_append]; omega⟩, Int.toNat_natCast, bytesOf_from]
def prevB : Option ByteArray → List Int
  | none => []
  | some q => bytesOf q
theorem comO_ev (p : Option ByteArray) (s : ByteArray) (h : ∀ q, p = some q → q.size ≤ 1000) : Ev (fun k => comO k p s) ((cmL (prevB p) (bytesOf s) : Nat) : Int) := by
  cases p with
  | none => simp only [prevB, cmL_nil]; exact Ev.now _
  | some q => exact commonRef_ev q s (by have := h q rfl; omega)
theorem dictRef_ev : ∀ (d : List ByteArray) (p : Option ByteArray) (b : List Int), Small d → (∀ q, p = some q → q.size ≤ 1000) → b.length + 1018 * d.length ≤ 90000000 → Ev (fun k => rdG k d p b) (b ++ dictB d (prevB p))
  | [], p, b, _, _, _ => by simp only [dictB, List.append_nil]; exact Ev.now _
  | s :: r, p, b, h, hb, hl => by
    have hs := h s (by simp)
    rw [List.length_cons] at hl
    have hc := (cmL_le (prevB p) (bytesOf s)).2
    rw [bytes_len] at hc
    have hcm := comO_ev p s hb
    generalize hC : cmL (prevB p) (bytesOf s) = c at hc hcm
    have g1 := G_len9 (n := c) (by omega)
    have g2 := G_len9 (n := s.size - c) (by omega)
    have eb : bytesOf (strOfNums (G c) ++ strOfNums (G (s.size - c)) ++ s.extract c s.size) = G c ++ (G (s.size - c) ++ (bytesOf s).drop c) := by
      rw [bytesOf_append, bytesOf_append, bytesOf_nums (G_byte _), bytesOf_nums (G_byte _), bytesOf_from, List.append_assoc]
    have ih := dictRef_ev r (some s) (b ++ (G c ++ (G (s.size - c) ++ (bytesOf s).drop c))) (fun x hx => h x (by simp [hx])) (fun q hq => by cases hq; exact hs) (by simp only [List.length_append, List.length_drop, bytes_len]; omega)
    have e : b ++ (G c ++ (G (s.size - c) ++ (bytesOf s).drop c)) ++ dictB r (prevB (some s)) = b ++ dictB (s :: r) (prevB p) := by
      rw [dictB, hC, show prevB (some s) = bytesOf s from rfl]; simp only [List.append_assoc]
    rw [e] at ih
    refine Ev.bind hcm ?_
    refine Ev.congr (fun k => if_pos ⟨by omega, by omega⟩) ?_
    refine Ev.bind (numRef_ev c (by omega)) ?_
    refine Ev.bind (a := strOfNums (G (s.size - c))) (Ev.congr (fun k => by rw [show (s.size : Int) - (c : Int) = ((s.size - c : Nat) : Int) by omega]) (numRef_ev (s.size - c) (by omega))) ?_
    refine Ev.congr (fun k => ?_) ih
    rw [if_pos (by rw [str_size, str_size]; omega), Int.toNat_natCast, eb]
/-! ### the places -/
def idxN : List ByteArray → ByteArray → Nat
  | [], _ => 0
  | y :: r, s => if bl y = bl s then 0 else idxN r s + 1
theorem idxN_le : ∀ (d : List ByteArray) (s : ByteArray), idxN d s ≤ d.length
  | [], _ => Nat.le_refl _
  | y :: r, s => by have := idxN_le r s; unfold idxN; split <;> simp; omega
theorem idxN_lt : ∀ {d : List ByteArray} {s : ByteArray}, s ∈ d → idxN d s < d.length
  | y :: r, s, h => by
    unfold idxN
    split
    · simp
    · rename_i hne
      rcases List.mem_cons.1 h with e | e
      · exact absurd (by rw [e]) hne
      · have := idxN_lt e; simp; omega
theorem idxN_get : ∀ {d : List ByteArray} {s : ByteArray}, s ∈ d → d[idxN d s]? = some s
  | y :: r, s, h => by
    unfold idxN
    split
    · rename_i he; simp [bl_inj he]
    · rename_i hne
      rcases List.mem_cons.1 h with e | e
      · exact absurd (by rw [e]) hne
      · simpa using idxN_get e
theorem plcF_not : ∀ (d : List ByteArray) (i : Nat) (s : ByteArray) (c : Int), s ∉ d → plcF d i s c = c
  | [], _, _, _, _ => rfl
  | y :: r, i, s, c, h => by
    rw [List.mem_cons, not_or] at h
    rw [plcF, if_neg (fun e => h.1 (bl_inj e).symm)]
    exact plcF_not r (i + 1) s c h.2
theorem plcF_in : ∀ (d : List ByteArray) (i : Nat) (s : ByteArray) (c : Int), Asc d → s ∈ d → plcF d i s c = ((i + idxN d s : Nat) : Int)
  | y :: r, i, s, c, ha, h => by
    obtain ⟨h1, h2⟩ := List.pairwise_cons.1 ha
    rw [plcF, idxN]
    by_cases e : bl y = bl s
    · rw [if_pos e, if_pos e, plcF_not r (i + 1) s _ (fun hm => absurd (h1 s hm) (by rw [e]; exact List.lt_irrefl _))]
      simp
    · rw [if_neg e, if_neg e]
      rcases List.mem_cons.1 h with e' | e'
      · exact absurd (by rw [e']) e
      · rw [plcF_in r (i + 1) s c h2 e']
        congr 1; omega
theorem plc_in {d : List ByteArray} {s : ByteArray} (ha : Asc d) (h : s ∈ d) : plc d s = (idxN d s : Int) := by
  unfold plc
  rw [plcF_in d 0 s 0 ha h]; simp
theorem index_l0 (d : List ByteArray) (s : ByteArray) (hd : d.length < 140737488355328) : ∀ (n i k : Nat), d.length - i ≤ n → i ≤ d.length → n + 1 ≤ k → lookoutref10_index.l0 k d s (i : Int) = some (if hasB s (d.drop i) = true then ((i + idxN (d.drop i) s : Nat) : Int) else -1) := by
  intro n
  induction n with
  | zero =>
    intro i k hn hi hk
    obtain ⟨k, rfl⟩ : ∃ j, k = j + 1 := ⟨k - 1, by omega⟩
    rw [lookoutref10_index.l0, if_neg (by omega), List.drop_eq_nil_of_le (by omega)]
    simp [hasB]
  | succ n ih =>
    intro i k hn hi hk
    obtain ⟨k, rfl⟩ : ∃ j, k = j + 1 := ⟨k - 1, by omega⟩
    rw [lookoutref10_index.l0]
    by_cases c1 : i < d.length
    · rw [if_pos (by omega), if_pos (by omega), drop_rd c1]
      by_cases c2 : (rdOf ByteArray.empty d (i : Int)).toList = s.toList
      · have e := tl_inj c2
        rw [if_pos c2, if_pos (hasB_iff.2 (by rw [show rdS d (i : Int) = s from e]; simp)), idxN, if_pos (by rw [show rdS d (i : Int) = s from e])]
        simp
      · rw [if_neg c2, w1 (by omega), ih (i + 1) k (by omega) (by omega) (by omega), show idxN (rdS d (i : Int) :: d.drop (i + 1)) s = idxN (d.drop (i + 1)) s + 1 from by rw [idxN, if_neg (fun e => c2 (by rw [toL, toL]; exact e))]]
        by_cases c3 : s ∈ d.drop (i + 1)
        · rw [if_pos (hasB_iff.2 c3), if_pos (hasB_iff.2 (List.mem_cons_of_mem _ c3))]
          congr 2; omega
        · have hneg : ¬ hasB s (rdS d (i : Int) :: d.drop (i + 1)) = true := fun h => by
            rcases List.mem_cons.1 (hasB_iff.1 h) with e | e
            · exact c2 (by rw [e])
            · exact c3 e
          have hneg2 : ¬ hasB s (d.drop (i + 1)) = true := fun h => c3 (hasB_iff.1 h)
          rw [if_neg hneg2, if_neg hneg]
    · rw [if_neg (by omega), List.drop_eq_nil_of_le (by omega)]
      simp [hasB]
theorem index_ev (d : List ByteArray) (s : ByteArray) (hd : d.length < 140737488355328) : Ev (fun k => lookoutref10_index.f k d s) (if hasB s d = true then (idxN d s : Int) else -1) := ⟨d.length + 1, fun k hk => by
  have := index_l0 d s hd d.length 0 k (by omega) (by omega) hk
  simpa [lookoutref10_index.f] using this⟩
theorem refD_ev : ∀ (l out : List ByteArray), out.length + l.length ≤ 100000000 → Ev (fun k => refD k l out) (dicF l out)
  | [], out, _ => Ev.now _
  | x :: r, out, h => by
    rw [List.length_cons] at h
    unfold dicF
    refine Ev.bind (index_ev out x (by omega)) ?_
    by_cases c : x ∈ out
    · rw [show (if hasB x out = true then out else insS x out) = out from if_pos (hasB_iff.2 c)]
      refine Ev.congr (fun k => ?_) (refD_ev r out (by omega))
      rw [show (if hasB x out = true then (idxN out x : Int) else -1) = (idxN out x : Int) from if_pos (hasB_iff.2 c), if_pos (by omega)]
    · rw [show (if hasB x out = true then out else insS x out) = insS x out from if_neg (fun h => c (hasB_iff.1 h))]
      refine Ev.congr (fun k => ?_) (refD_ev r (insS x out) (by have := posB_le x out; unfold insS; simp; omega))
      rw [show (if hasB x out = true then (idxN out x : Int) else -1) = -1 from if_neg (fun h => c (hasB_iff.1 h)), if_neg (by omega), if_pos (by omega)]
theorem dicRef_ev (l : List ByteArray) (h : l.length ≤ 100000000) : Ev (fun k => lookoutref10_dictionary.f k l) (dic l) := refD_ev l [] (by simpa using h)
/-! ### the runs' bytes -/
def runB (d : List ByteArray) : List (ByteArray × Int) → List Int
  | [] => []
  | p :: r => G (idxN d p.1) ++ (G (p.2 - 1).toNat ++ runB d r)
theorem runs_ev (d : List ByteArray) (ha : Asc d) (hd : d.length ≤ 100000) : ∀ (L : List (ByteArray × Int)) (b : List Int), (∀ p ∈ L, p.1 ∈ d ∧ p.1.size ≤ 1000 ∧ 1 ≤ p.2 ∧ p.2 ≤ 2000) → b.length + 18 * L.length ≤ 90000000 → Ev (fun k => runsG k d L b) (b ++ runB d L)
  | [], b, _, _ => by simp only [runB, List.append_nil]; exact Ev.now _
  | p :: r, b, h, hl => by
    obtain ⟨h1, h2, h3, h4⟩ := h p (by simp)
    rw [List.length_cons] at hl
    have hi := idxN_lt h1
    have g1 := G_len9 (n := idxN d p.1) (by omega)
    have g2 := G_len9 (n := (p.2 - 1).toNat) (by omega)
    have ih := runs_ev d ha hd r (b ++ G (idxN d p.1) ++ G (p.2 - 1).toNat) (fun x hx => h x (by simp [hx])) (by simp only [List.length_append]; omega)
    have e : b ++ G (idxN d p.1) ++ G (p.2 - 1).toNat ++ runB d r = b ++ runB d (p :: r) := by simp only [runB, List.append_assoc]
    rw [e] at ih
    unfold runsG
    refine Ev.congr (fun k => if_pos (by omega)) ?_
    refine Ev.bind (a := b ++ G (idxN d p.1)) (Ev.congr (fun k => by rw [plc_in ha h1]) (num_ev b (idxN d p.1) (by omega) (by omega))) ?_
    refine Ev.bind (a := b ++ G (idxN d p.1) ++ G (p.2 - 1).toNat) (Ev.congr (fun k => by rw [w_in (by omega) (by omega), show p.2 - 1 = (((p.2 - 1).toNat : Nat) : Int) by omega]; simp only [Int.toNat_natCast]) (num_ev (b ++ G (idxN d p.1)) (p.2 - 1).toNat (by omega) (by rw [List.length_append]; omega))) ih
theorem runsRef_ev (d : List ByteArray) (hd : d.length ≤ 100000) : ∀ (L : List (ByteArray × Int)) (b : List Int), (∀ p ∈ L, p.1 ∈ d ∧ p.1.size ≤ 1000 ∧ 1 ≤ p.2 ∧ p.2 ≤ 2000) → b.length + 18 * L.length ≤ 90000000 → Ev (fun k => rrG k d L b) (b ++ runB d L)
  | [], b, _, _ => by simp only [runB, List.append_nil]; exact Ev.now _
  | p :: r, b, h, hl => by
    obtain ⟨h1, h2, h3, h4⟩ := h p (by simp)
    rw [List.length_cons] at hl
    have hi := idxN_lt h1
    have g1 := G_len9 (n := idxN d p.1) (by omega)
    have g2 := G_len9 (n := (p.2 - 1).toNat) (by omega)
    have eb : bytesOf (strOfNums (G (idxN d p.1)) ++ strOfNums (G (p.2 - 1).toNat)) = G (idxN d p.1) ++ G (p.2 - 1).toNat := by rw [bytesOf_append, bytesOf_nums (G_byte _), bytesOf_nums (G_byte _)]
    have ih := runsRef_ev d hd r (b ++ (G (idxN d p.1) ++ G (p.2 - 1).toNat)) (fun x hx => h x (by simp [hx])) (by simp only [List.length_append]; omega)
    have e : b ++ (G (idxN d p.1) ++ G (p.2 - 1).toNat) ++ runB d r = b ++ runB d (p :: r) := by simp only [runB, List.append_assoc]
    rw [e] at ih
    unfold rrG
    refine Ev.bind (index_ev d p.1 (by omega)) ?_
    refine Ev.bind (a := strOfNums (G (idxN d p.1))) (Ev.congr (fun k => by rw [if_pos (hasB_iff.2 h1)]) (numRef_ev (idxN d p.1) (by omega))) ?_
    refine Ev.bind (a := strOfNums (G (p.2 - 1).toNat)) (Ev.congr (fun k => by rw [show p.2 - 1 = (((p.2 - 1).toNat : Nat) : Int) by omega]; simp only [Int.toNat_natCast]) (numRef_ev (p.2 - 1).toNat (by omega))) ?_
    refine Ev.congr (fun k => ?_) ih
    rw [if_pos (by rw [str_size, str_size]; omega), eb]
end Go.Proofs.Ytfklecicddpcjaa.DK
