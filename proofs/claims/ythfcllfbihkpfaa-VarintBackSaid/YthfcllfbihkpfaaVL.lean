/- Plain facts on encoding and decoding lists of numbers: the varint chapter's functions and its reference answer alike. No condition beyond those in the statements. -/
import Derived.Test.YthfcllfbihkpfaaVC
import Derived.Test.YthfcllfbihkpfaaVA
namespace Go.Proofs.Ythfcllfbihkpfaa.VB
open Go Go.RowKit Go.Proofs.Ythfcllfbihkpfaa.P Go.Proofs.Ythfcllfbihkpfaa.Hand Go.Proofs.YthfcllfbihkpfaaW.PrintWords Go.Proofs.YthfcllfbihkpfaaW.PrintLast Go.Proofs.YthfcllfbihkpfaaW.PrintMore

def inR (n : Int) : Prop := -1152921504606846976 ≤ n ∧ n ≤ 1152921504606846976
instance (n : Int) : Decidable (inR n) := inferInstanceAs (Decidable (_ ∧ _))
/-- The bytes of the numbers of a list. -/
def ZL (l : List Int) : List Int := l.flatMap fun n => G (zig n)
theorem ZL_cons (n : Int) (l : List Int) : ZL (n :: l) = G (zig n) ++ ZL l := rfl
theorem ZL_nil : ZL [] = [] := rfl
theorem ZL_append (a b : List Int) : ZL (a ++ b) = ZL a ++ ZL b := by simp [ZL]
theorem ZL_byte (l : List Int) : ∀ b ∈ ZL l, 0 ≤ b ∧ b ≤ 255 := by
  intro b hb
  simp only [ZL, List.mem_flatMap] at hb
  obtain ⟨n, _, hb⟩ := hb
  exact G_byte _ b hb
def EN (l : List Int) : ByteArray × Int :=
  if 20000 < l.length then (⟨#[]⟩, 4) else if ∀ n ∈ l, inR n then (strOfNums (G l.length ++ ZL l), 0) else (⟨#[]⟩, 2)
theorem drop_cons {l : List Int} {i : Nat} (h : i < l.length) : l.drop i = rd l i :: l.drop (i + 1) := by
  rw [List.drop_eq_getElem_cons h]
  congr 1
  unfold rd
  rw [Int.toNat_natCast, List.getD_eq_getElem?_getD, List.getElem?_eq_getElem h]
  rfl
theorem encode_l0 (l : List Int) (hl : l.length ≤ 20000) : ∀ (d i : Nat) (acc : List Int), i + d = l.length → acc.length ≤ 10 + 10 * i →
    Ev (fun k => varint_Encode.l0 k acc l l.length i) (if ∀ n ∈ l.drop i, inR n then (strOfNums (acc ++ ZL (l.drop i)), 0) else (⟨#[]⟩, 2)) := by
  intro d
  induction d with
  | zero =>
    intro i acc h ha
    rw [List.drop_eq_nil_of_le (by omega), if_pos (by simp), ZL_nil, List.append_nil]
    exact Ev.step (fun k => by rw [varint_Encode.l0, if_neg (by omega)]) (Ev.now _)
  | succ d ih =>
    intro i acc h ha
    rw [drop_cons (show i < l.length by omega)]
    by_cases hn : inR (rd l i)
    · have hz := zig_lt hn.1 hn.2
      have hg := G_len9 (n := zig (rd l i)) (by omega)
      have hw : wrap64 ((i : Int) + 1) = ((i + 1 : Nat) : Int) := by unfold wrap64; omega
      refine Ev.step (f := fun k => (varint_appendGroups.f k acc (zig (rd l i) : Int)).bind fun t113 => varint_Encode.l0 k t113 l l.length ((i + 1 : Nat) : Int)) (fun k => by
        rw [varint_Encode.l0, if_pos (by omega), if_pos (by omega), if_pos (by omega), inRange_is, Option.bind_some, if_pos (decide_eq_true (show -1152921504606846976 ≤ rd l i ∧ rd l i ≤ 1152921504606846976 from hn)), folded_is hn.1 hn.2, Option.bind_some, hw]) ?_
      refine Ev.bind (ag_ev acc _ (by omega) (by omega)) ?_
      have := ih (i + 1) (acc ++ G (zig (rd l i))) (by omega) (by rw [List.length_append]; omega)
      rw [List.append_assoc, ← ZL_cons] at this
      have e : (∀ n ∈ rd l i :: l.drop (i + 1), inR n) ↔ ∀ n ∈ l.drop (i + 1), inR n := by simp [hn]
      simp only [e]
      exact this
    · rw [if_neg (by intro h; exact hn (h _ (by simp)))]
      exact Ev.step (fun k => by rw [varint_Encode.l0, if_pos (by omega), if_pos (by omega), if_pos (by omega), inRange_is, Option.bind_some, if_neg (by rw [decide_eq_true_eq]; exact hn)]) (Ev.now _)
theorem encode_ev (l : List Int) (hl : l.length ≤ 140737488351232) : Ev (fun k => varint_Encode.f k l) (EN l) := by
  unfold EN
  by_cases h : 20000 < l.length
  · rw [if_pos h]
    simp only [varint_Encode.f, if_pos (show (l.length : Int) > 20000 by omega)]
    exact Ev.now _
  · rw [if_neg h]
    simp only [varint_Encode.f, if_neg (show ¬ (l.length : Int) > 20000 by omega), show IntKind.u64.wrap (l.length : Int) = (l.length : Int) by rw [IntKind.wrap_u64]; omega]
    have hg := G_len9 (n := l.length) (by omega)
    refine Ev.bind (ag_ev [] l.length (by omega) (by simp)) ?_
    have := encode_l0 l (by omega) l.length 0 ([] ++ G l.length) (by omega) (by simp; omega)
    simpa using this
theorem encodeRef_l0 (l : List Int) (hl : l.length ≤ 20000) : ∀ (d i : Nat) (acc : List Int), i + d = l.length → acc.length ≤ 10 + 10 * i →
    Ev (fun k => lookoutref01_Encode.l0 k l (strOfNums acc) i) (if ∀ n ∈ l.drop i, inR n then (strOfNums (acc ++ ZL (l.drop i)), 0) else (⟨#[]⟩, 2)) := by
  intro d
  induction d with
  | zero =>
    intro i acc h ha
    rw [List.drop_eq_nil_of_le (by omega), if_pos (by simp), ZL_nil, List.append_nil]
    exact Ev.step (fun k => by rw [lookoutref01_Encode.l0, if_neg (by omega)]) (Ev.now _)
  | succ d ih =>
    intro i acc h ha
    rw [drop_cons (show i < l.length by omega)]
    have hs : (strOfNums acc).size ≤ 4611686018427387904 := by rw [strOfNums_size]; omega
    have hw : wrap64 ((i : Int) + 1) = ((i + 1 : Nat) : Int) := by unfold wrap64; omega
    refine Ev.step (f := fun k => (lookoutref01_AppendSigned.f k (strOfNums acc) (rd l i)).bind fun bt189 => (if bt189.2 = 0 then (lookoutref01_Encode.l0 k l bt189.1 ((i + 1 : Nat) : Int)) else (some ((⟨#[]⟩ : ByteArray), bt189.2)))) (fun k => by
      rw [lookoutref01_Encode.l0, if_pos (by omega), if_pos (by omega), hw]) ?_
    refine Ev.bind (appendSignedRef_ev _ _ hs) ?_
    by_cases hn : inR (rd l i)
    · have hz := zig_lt hn.1 hn.2
      have hg := G_len9 (n := zig (rd l i)) (by omega)
      have e0 : AS (strOfNums acc) (rd l i) = (strOfNums acc ++ strOfNums (G (zig (rd l i))), 0) := if_pos hn
      rw [e0, ← strOfNums_append]
      simp only [if_true]
      have := ih (i + 1) (acc ++ G (zig (rd l i))) (by omega) (by rw [List.length_append]; omega)
      rw [List.append_assoc, ← ZL_cons] at this
      have e : (∀ n ∈ rd l i :: l.drop (i + 1), inR n) ↔ ∀ n ∈ l.drop (i + 1), inR n := by simp [hn]
      simp only [e]
      exact this
    · have e0 : AS (strOfNums acc) (rd l i) = ((⟨#[]⟩ : ByteArray), 2) := if_neg hn
      rw [if_neg (by intro h; exact hn (h _ (by simp))), e0]
      simp only [if_neg (show ¬ (2 : Int) = 0 by omega)]
      exact Ev.now _
theorem encodeRef_ev (l : List Int) (hl : l.length ≤ 140737488351232) : Ev (fun k => lookoutref01_Encode.f k l) (EN l) := by
  unfold EN
  by_cases h : 20000 < l.length
  · rw [if_pos h]
    simp only [lookoutref01_Encode.f, if_pos (show (l.length : Int) > 20000 by omega)]
    exact Ev.now _
  · rw [if_neg h]
    simp only [lookoutref01_Encode.f, if_neg (show ¬ (l.length : Int) > 20000 by omega)]
    have hg := G_len9 (n := l.length) (by omega)
    refine Ev.bind (put_ev l.length (by omega)) ?_
    have := encodeRef_l0 l (by omega) l.length 0 (G l.length) (by omega) (by omega)
    simpa using this

/-! ## Decoding -/
def DL : Nat → List Int → List Int → List Int × Int
  | 0, l, acc => if l = [] then (acc, 0) else ([], 12)
  | c + 1, l, acc => if (RS l).2.2 = 0 then DL c (l.drop (RS l).2.1.toNat) (acc ++ [(RS l).1]) else ([], (RS l).2.2)
def DE (l : List Int) : List Int × Int :=
  if (RD l).2.2 = 0 then (if 20000 < (RD l).1 then ([], 4) else DL (RD l).1.toNat (l.drop (RD l).2.1.toNat) []) else ([], (RD l).2.2)
theorem RS_size {l : List Int} (hb : ∀ b ∈ l, 0 ≤ b ∧ b ≤ 255) (h : (RS l).2.2 = 0) : 0 < (RS l).2.1 ∧ (RS l).2.1 ≤ l.length := by
  obtain ⟨rest, hl, hc, _⟩ := RS_canon (v := (RS l).1) (c := (RS l).2.1) hb (by rw [← h])
  have := G_pos (zig (RS l).1)
  have h2 := congrArg List.length hl
  rw [List.length_append] at h2
  omega
theorem RD_size {l : List Int} (hb : ∀ b ∈ l, 0 ≤ b ∧ b ≤ 255) (h : (RD l).2.2 = 0) : 0 < (RD l).2.1 ∧ (RD l).2.1 ≤ l.length ∧ 0 ≤ (RD l).1 ∧ (RD l).1 ≤ 1152921504606846976 := by
  obtain ⟨rest, hl, hc, h0, h1⟩ := RD_canon (v := (RD l).1) (c := (RD l).2.1) hb (by rw [← h])
  have := G_pos (RD l).1.toNat
  have h2 := congrArg List.length hl
  rw [List.length_append] at h2
  omega
theorem drop_byte {l : List Int} (hb : ∀ b ∈ l, 0 ≤ b ∧ b ≤ 255) (n : Nat) : ∀ b ∈ l.drop n, 0 ≤ b ∧ b ≤ 255 := fun b h => hb b (List.mem_of_mem_drop h)
theorem decode_l0 (s : ByteArray) (hs : s.size ≤ 140737488351232) (c : Nat) (hc : c ≤ 20000) : ∀ (d i a : Nat) (acc : List Int), i + d = c → a ≤ s.size → acc.length = i →
    Ev (fun k => varint_Decode.l0 k s a acc c i) (DL d ((bytesOf s).drop a) acc) := by
  intro d
  induction d with
  | zero =>
    intro i a acc h ha hl
    unfold DL
    by_cases e : a = s.size
    · rw [if_pos (bytes_end s (by omega))]
      exact Ev.step (fun k => by rw [varint_Decode.l0, if_neg (by omega), if_pos (by omega)]) (Ev.now _)
    · rw [if_neg (by rw [bytes_drop s (by omega)]; simp)]
      exact Ev.step (fun k => by rw [varint_Decode.l0, if_neg (by omega), if_neg (by omega)]) (Ev.now _)
  | succ d ih =>
    intro i a acc h ha hl
    have hx : varint_ReadSigned.f (s.extract (a : Int).toNat s.size) = some (RS ((bytesOf s).drop a)) := by rw [readSigned_is, Int.toNat_natCast, bytesOf_from]
    have hbb := drop_byte (bytes_in s) a
    have hz := RS_size hbb
    unfold DL
    obtain ⟨v, x, e, hr⟩ : ∃ v x e, RS ((bytesOf s).drop a) = (v, x, e) := ⟨_, _, _, rfl⟩
    rw [hr] at hx hz ⊢
    dsimp only at hz ⊢
    by_cases he : e = 0
    · subst he
      have hz := hz rfl
      rw [List.length_drop, bytesOf_length] at hz
      obtain ⟨q, rfl⟩ := Int.eq_ofNat_of_zero_le (show 0 ≤ x by omega)
      have hw : wrap64 ((i : Int) + 1) = ((i + 1 : Nat) : Int) := by unfold wrap64; omega
      have hw2 : wrap64 ((a : Int) + (q : Int)) = ((a + q : Nat) : Int) := by unfold wrap64; omega
      have := ih (i + 1) (a + q) (acc ++ [v]) (by omega) (by omega) (by simp; omega)
      rw [if_pos rfl, Int.toNat_natCast, List.drop_drop]
      refine Ev.step (fun k => ?_) this
      rw [varint_Decode.l0, if_pos (by omega), if_pos (by omega), if_pos (by omega), hx, Option.bind_some]
      dsimp only
      rw [if_pos rfl, if_pos (by omega), hw, hw2]
    · rw [if_neg he]
      refine Ev.step (fun k => ?_) (Ev.now _)
      rw [varint_Decode.l0, if_pos (by omega), if_pos (by omega), if_pos (by omega), hx, Option.bind_some]
      dsimp only
      rw [if_neg he]
theorem decode_ev (s : ByteArray) (hs : s.size ≤ 140737488351232) : Ev (fun k => varint_Decode.f k s) (DE (bytesOf s)) := by
  simp only [varint_Decode.f, read_is, Option.bind_some]
  unfold DE
  by_cases he : (RD (bytesOf s)).2.2 = 0
  · simp only [if_pos he]
    obtain ⟨h1, h2, h3, h4⟩ := RD_size (bytes_in s) he
    by_cases hg : 20000 < (RD (bytesOf s)).1
    · simp only [gt_iff_lt, if_pos hg]; exact Ev.now _
    · rw [bytesOf_length] at h2
      obtain ⟨c, hc⟩ : ∃ c : Nat, (RD (bytesOf s)).1 = (c : Int) := ⟨(RD (bytesOf s)).1.toNat, by omega⟩
      obtain ⟨q, hq⟩ : ∃ q : Nat, (RD (bytesOf s)).2.1 = (q : Int) := ⟨(RD (bytesOf s)).2.1.toNat, by omega⟩
      have hm : 0 ≤ mn (c : Int) (s.size : Int) ∧ mn (c : Int) (s.size : Int) ≤ 20000 := by unfold mn; split <;> omega
      simp only [gt_iff_lt, hc, hq, if_neg (show ¬ 20000 < (c : Int) by omega), if_pos hm.1, if_pos (show (mn (c : Int) (s.size : Int)).toNat ≤ 35184372088832 by omega), Int.toNat_natCast]
      exact decode_l0 s hs c (by omega) c 0 q [] (by omega) (by omega) rfl
  · simp only [if_neg he]; exact Ev.now _
theorem decodeRef_l0 (c : Nat) (hc : c ≤ 20000) : ∀ (d i : Nat) (s : ByteArray) (acc : List Int), i + d = c → s.size ≤ 140737488351232 → acc.length = i →
    Ev (fun k => lookoutref01_Decode.l0 k s c acc i) (DL d (bytesOf s) acc) := by
  intro d
  induction d with
  | zero =>
    intro i s acc h hs hl
    unfold DL
    by_cases e : 0 < s.size
    · rw [if_neg (by intro h; have := bytesOf_length s; rw [h] at this; simp at this; omega)]
      exact Ev.step (fun k => by rw [lookoutref01_Decode.l0, if_neg (by omega), if_pos (by omega)]) (Ev.now _)
    · rw [if_pos (List.eq_nil_of_length_eq_zero (by rw [bytesOf_length]; omega))]
      exact Ev.step (fun k => by rw [lookoutref01_Decode.l0, if_neg (by omega), if_neg (by omega)]) (Ev.now _)
  | succ d ih =>
    intro i s acc h hs hl
    unfold DL
    refine Ev.step (f := fun k => (lookoutref01_ReadSigned.f k s).bind fun bt203 => (if bt203.2.2 = 0 then (if acc.length < 17592186044416 then (if 0 ≤ bt203.2.1 then (if bt203.2.1 ≤ (s.size : Int) then (lookoutref01_Decode.l0 k (s.extract (bt203.2.1 : Int).toNat s.size) c (acc ++ [bt203.1]) (wrap64 ((i : Int) + 1))) else (none)) else (none)) else (none)) else (some ((([] : List Int)), bt203.2.2)))) (fun k => by
      rw [lookoutref01_Decode.l0, if_pos (by omega)]) ?_
    refine Ev.bind (readSignedRef_ev s hs) ?_
    by_cases he : (RS (bytesOf s)).2.2 = 0
    · have hz := RS_size (bytes_in s) he
      rw [bytesOf_length] at hz
      have hw : wrap64 ((i : Int) + 1) = ((i + 1 : Nat) : Int) := by unfold wrap64; omega
      simp only [if_pos he, if_pos (show acc.length < 17592186044416 by omega), if_pos (show 0 ≤ (RS (bytesOf s)).2.1 by omega), if_pos hz.2, hw]
      have := ih (i + 1) (s.extract (RS (bytesOf s)).2.1.toNat s.size) (acc ++ [(RS (bytesOf s)).1]) (by omega) (by rw [← bytesOf_length, bytesOf_from, List.length_drop, bytesOf_length]; omega) (by simp; omega)
      rw [bytesOf_from] at this
      exact this
    · simp only [if_neg he]; exact Ev.now _
theorem decodeRef_ev (s : ByteArray) (hs : s.size ≤ 140737488351232) : Ev (fun k => lookoutref01_Decode.f k s) (DE (bytesOf s)) := by
  simp only [lookoutref01_Decode.f]
  refine Ev.bind (readRef_ev s hs) ?_
  unfold DE
  by_cases he : (RD (bytesOf s)).2.2 = 0
  · simp only [if_pos he]
    obtain ⟨h1, h2, h3, h4⟩ := RD_size (bytes_in s) he
    by_cases hg : 20000 < (RD (bytesOf s)).1
    · simp only [gt_iff_lt, if_pos hg]; exact Ev.now _
    · rw [bytesOf_length] at h2
      obtain ⟨c, hc⟩ : ∃ c : Nat, (RD (bytesOf s)).1 = (c : Int) := ⟨(RD (bytesOf s)).1.toNat, by omega⟩
      simp only [gt_iff_lt, hc, if_neg (show ¬ 20000 < (c : Int) by omega), if_pos (show 0 ≤ (RD (bytesOf s)).2.1 by omega), if_pos h2, Int.toNat_natCast]
      have := decodeRef_l0 c (by omega) c 0 (s.extract (RD (bytesOf s)).2.1.toNat s.size) [] (by omega) (by rw [← bytesOf_length, bytesOf_from, List.length_drop, bytesOf_length]; omega) rfl
      rw [bytesOf_from] at this
      exact this
  · simp only [if_neg he]; exact Ev.now _
theorem same_l0 (l : List Int) (hl : l.length ≤ 140737488351232) : ∀ (d i : Nat), i + d = l.length → Ev (fun k => lookoutref01_Same.l0 k l l i) true := by
  intro d
  induction d with
  | zero => intro i h; exact Ev.step (fun k => by rw [lookoutref01_Same.l0, if_neg (by omega)]) (Ev.now _)
  | succ d ih =>
    intro i h
    have hw : wrap64 ((i : Int) + 1) = ((i + 1 : Nat) : Int) := by unfold wrap64; omega
    exact Ev.step (fun k => by rw [lookoutref01_Same.l0, if_pos (by omega), if_pos (by omega), if_pos (by omega), if_pos rfl, hw]) (ih (i + 1) (by omega))
theorem same_ev (l : List Int) (hl : l.length ≤ 140737488351232) : Ev (fun k => lookoutref01_Same.f k l l) true := by
  simp only [lookoutref01_Same.f, if_true]
  exact same_l0 l hl l.length 0 (by omega)
theorem DL_len : ∀ (c : Nat) (l acc : List Int), (DL c l acc).1.length ≤ c + acc.length := by
  intro c
  induction c with
  | zero => intro l acc; unfold DL; split <;> simp
  | succ c ih =>
    intro l acc
    unfold DL
    split
    · have := ih (l.drop (RS l).2.1.toNat) (acc ++ [(RS l).1])
      simp at this
      omega
    · simp
theorem DE_len (l : List Int) : (DE l).1.length ≤ 20000 := by
  unfold DE
  split
  · split
    · simp
    · have := DL_len (RD l).1.toNat (l.drop (RD l).2.1.toNat) []
      simp at this
      omega
  · simp
/-- What can be decoded is an encoding. -/
theorem DL_canon : ∀ (c : Nat) (l acc L : List Int), (∀ b ∈ l, 0 ≤ b ∧ b ≤ 255) → DL c l acc = (L, 0) → ∃ xs, L = acc ++ xs ∧ xs.length = c ∧ l = ZL xs ∧ ∀ n ∈ xs, inR n := by
  intro c
  induction c with
  | zero =>
    intro l acc L hb h
    unfold DL at h
    split at h
    · rename_i hl
      simp only [Prod.mk.injEq, and_true] at h
      exact ⟨[], by simp [h], rfl, hl, by simp⟩
    · simp at h
  | succ c ih =>
    intro l acc L hb h
    unfold DL at h
    split at h
    · rename_i he
      obtain ⟨rest, hl, hc, h1, h2⟩ := RS_canon (v := (RS l).1) (c := (RS l).2.1) hb (by rw [← he])
      have hd : l.drop (RS l).2.1.toNat = rest := by
        rw [hc, Int.toNat_natCast]
        exact (congrArg (List.drop _) hl).trans (List.drop_left' rfl)
      obtain ⟨xs, hL, hx, hr, hin⟩ := ih _ _ _ (drop_byte hb _) h
      rw [hd] at hr
      exact ⟨(RS l).1 :: xs, by rw [hL, List.append_assoc]; rfl, by simp [hx], by rw [ZL_cons, ← hr]; exact hl, fun n hn => by
        rcases List.mem_cons.1 hn with rfl | hn
        · exact ⟨h1, h2⟩
        · exact hin n hn⟩
    · rename_i he
      simp only [Prod.mk.injEq] at h
      exact absurd h.2 he
theorem DE_canon {s : ByteArray} {L : List Int} (h : DE (bytesOf s) = (L, 0)) : EN L = (s, 0) ∧ L.length ≤ 20000 := by
  have hlen := DE_len (bytesOf s)
  rw [h] at hlen
  refine ⟨?_, hlen⟩
  unfold DE at h
  split at h
  · rename_i he
    split at h
    · simp at h
    · rename_i hg
      obtain ⟨rest, hl, hc, h0, h1⟩ := RD_canon (v := (RD (bytesOf s)).1) (c := (RD (bytesOf s)).2.1) (bytes_in s) (by rw [← he])
      have hd : (bytesOf s).drop (RD (bytesOf s)).2.1.toNat = rest := by
        rw [hc, Int.toNat_natCast]
        exact (congrArg (List.drop _) hl).trans (List.drop_left' rfl)
      obtain ⟨xs, hL, hx, hr, hin⟩ := DL_canon _ _ _ _ (drop_byte (bytes_in s) _) h
      rw [List.nil_append] at hL
      subst hL
      unfold EN
      rw [if_neg (by simp only at hlen; omega), if_pos hin, hx]
      rw [hd] at hr
      rw [← hr, ← hl]
      congr 1
      apply bytesOf_inj
      rw [bytesOf_nums (bytes_in s)]
  · rename_i he
    simp only [Prod.mk.injEq] at h
    exact absurd h.2 he
/-- Decoding an encoding. -/
theorem DL_round : ∀ (xs acc : List Int), (∀ n ∈ xs, inR n) → DL xs.length (ZL xs) acc = (acc ++ xs, 0) := by
  intro xs
  induction xs with
  | nil => intro acc _; simp [DL, ZL_nil]
  | cons x t ih =>
    intro acc h
    have hx := h x (by simp)
    have hr := RS_round x (ZL t) hx.1 hx.2
    rw [List.length_cons, ZL_cons]
    unfold DL
    rw [hr]
    simp only [if_true, Int.toNat_natCast]
    rw [List.drop_left' rfl, ih _ (fun n hn => h n (by simp [hn])), List.append_assoc]
    rfl
theorem DE_round {xs : List Int} (hl : xs.length ≤ 20000) (h : ∀ n ∈ xs, inR n) : DE (G xs.length ++ ZL xs) = (xs, 0) := by
  have hr := RD_round xs.length (ZL xs) (by omega)
  unfold DE
  rw [hr]
  simp only [if_true, Int.toNat_natCast]
  rw [if_neg (by omega), List.drop_left' rfl, DL_round xs [] h, List.nil_append]
end Go.Proofs.Ythfcllfbihkpfaa.VB
