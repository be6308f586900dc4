/- Plain facts on columns: decoding an encoded column yields the column. No condition beyond those in the statements. -/
import Derived.Test.YtbihedcjcmcjaaaKK
namespace Go.Proofs.Ytbihedcjcmcjaaa.DB
open Go.RowKit Go.Proofs.Ytbihedcjcmcjaaa.VB Go.Proofs.Ytbihedcjcmcjaaa.A Go.Proofs.Ytbihedcjcmcjaaa.C Go.Proofs.Ytbihedcjcmcjaaa.Hand Go.Proofs.YtbihedcjcmcjaaaW.PrintWords Go.Proofs.YtbihedcjcmcjaaaW.PrintLast Go.Proofs.YtbihedcjcmcjaaaW.PrintMore
set_option linter.unusedVariables false
set_option linter.unusedSimpArgs false
def EX (L : List (Int × Int)) : List Int := L.flatMap fun p => List.replicate p.2.toNat p.1
theorem EX_cons (p : Int × Int) (L : List (Int × Int)) : EX (p :: L) = List.replicate p.2.toNat p.1 ++ EX L := rfl
theorem eqN_take (x : Int) : ∀ r : List Int, r.take (eqN x r) = List.replicate (eqN x r) x
  | [] => rfl
  | y :: r => by
    unfold eqN
    split
    · subst_vars
      rw [List.take_succ_cons, eqN_take y r, List.replicate_succ]
    · rfl
theorem EX_runF : ∀ (d : Nat) (l : List Int), l.length ≤ d → EX (runF d l) = l
  | 0, [], _ => rfl
  | _ + 1, [], _ => rfl
  | d + 1, x :: r, h => by
    rw [runF, EX_cons, EX_runF d (r.drop (eqN x r)) (by rw [List.length_drop]; simp at h; omega), Int.toNat_natCast, List.replicate_succ, List.cons_append, ← eqN_take, List.take_append_drop]
theorem EX_runL (l : List Int) : EX (runL l) = l := EX_runF _ l (Nat.le_refl _)
def TOT : List (Int × Int) → Nat
  | [] => 0
  | p :: r => p.2.toNat + TOT r
theorem EX_len : ∀ L : List (Int × Int), (EX L).length = TOT L
  | [] => rfl
  | p :: r => by rw [EX_cons, List.length_append, List.length_replicate, EX_len r, TOT]
theorem numS {s : ByteArray} {i : Nat} {x : Int} {rest : List Int} (hs : s.size ≤ 1000000) (hi : i ≤ s.size) (hx : IN60 x) (h : (bytesOf s).drop i = G (zig x) ++ rest) : numR varint_ReadSigned.f s (i : Int) 0 = some (x, ((i + (G (zig x)).length : Nat) : Int), 0) ∧ (bytesOf s).drop (i + (G (zig x)).length) = rest ∧ i + (G (zig x)).length ≤ s.size := by
  have hsz : (bytesOf s).length = s.size := by simp [bytesOf]
  have hl := congrArg List.length h
  rw [List.length_drop, List.length_append] at hl
  have hr := RS_round x rest hx.1 hx.2
  refine ⟨?_, by rw [← List.drop_drop, h, List.drop_left], by omega⟩
  unfold numR
  rw [if_pos rfl, if_pos (by omega), if_pos (by omega), readSigned_is, Int.toNat_natCast, bytesOf_from, h, hr, Option.bind_some]
  rw [show wrap64 ((i : Int) + ((G (zig x)).length : Int)) = ((i + (G (zig x)).length : Nat) : Int) by unfold wrap64; omega]
theorem numU {s : ByteArray} {i : Nat} {x : Int} {rest : List Int} (hs : s.size ≤ 1000000) (hi : i ≤ s.size) (h0 : 0 ≤ x) (h1 : x ≤ 1152921504606846976) (h : (bytesOf s).drop i = G x.toNat ++ rest) : numR varint_Read.f s (i : Int) 0 = some (x, ((i + (G x.toNat).length : Nat) : Int), 0) ∧ (bytesOf s).drop (i + (G x.toNat).length) = rest ∧ i + (G x.toNat).length ≤ s.size := by
  have hsz : (bytesOf s).length = s.size := by simp [bytesOf]
  have hl := congrArg List.length h
  rw [List.length_drop, List.length_append] at hl
  have hr := RD_round x.toNat rest (by omega)
  refine ⟨?_, by rw [← List.drop_drop, h, List.drop_left], by omega⟩
  unfold numR
  rw [if_pos rfl, if_pos (by omega), if_pos (by omega), read_is, Int.toNat_natCast, bytesOf_from, h, hr, Option.bind_some, Int.toNat_of_nonneg h0]
  rw [show wrap64 ((i : Int) + ((G x.toNat).length : Int)) = ((i + (G x.toNat).length : Nat) : Int) by unfold wrap64; omega]
theorem rrun_is (s : ByteArray) (hs : s.size ≤ 1000000) : ∀ (L : List (Int × Int)) (acc : List Int) (i d : Nat) (c : Int), (∀ p ∈ L, IN60 p.1 ∧ 1 ≤ p.2) → (bytesOf s).drop i = runB L → i ≤ s.size → c = ((acc.length + TOT L : Nat) : Int) → acc.length + TOT L ≤ 100000 → L.length < d → rrunG d s (i : Int) 0 c acc = some (acc ++ EX L, (s.size : Int), 0)
  | _, _, _, 0, _, _, _, _, _, _, hd => absurd hd (Nat.not_lt_zero _)
  | [], acc, i, d + 1, c, _, hb, hi, hc, _, _ => by
    have hsz : (bytesOf s).length = s.size := by simp [bytesOf]
    have hl := congrArg List.length hb
    rw [List.length_drop] at hl
    simp [runB] at hl
    rw [rrunG, if_neg (by rw [hc]; simp [TOT]), show EX [] = [] from rfl, List.append_nil]
    rw [show i = s.size by omega]
  | p :: L, acc, i, d + 1, c, hp, hb, hi, hc, ht, hd => by
    obtain ⟨px, p1⟩ := hp p (by simp)
    rw [TOT] at hc ht
    rw [runB_cons] at hb
    obtain ⟨e1, hb1, hi1⟩ := numS hs hi px hb
    obtain ⟨e2, hb2, hi2⟩ := numU hs hi1 (by omega) (by omega) hb1
    have ih := rrun_is s hs L (acc ++ List.replicate p.2.toNat p.1) (i + (G (zig p.1)).length + (G p.2.toNat).length) d c (fun q hq => hp q (by simp [hq])) hb2 hi2 (by rw [List.length_append, List.length_replicate, hc]; omega) (by rw [List.length_append, List.length_replicate]; omega) (by simp at hd; omega)
    have hw : wrap64 (c - (acc.length : Int)) = c - (acc.length : Int) := by unfold wrap64; omega
    rw [rrunG, if_pos (by omega), e1, Option.bind_some]
    dsimp only
    rw [e2, Option.bind_some]
    dsimp only
    rw [if_pos rfl, if_neg (by omega), hw, if_neg (by omega), if_pos ⟨by omega, by omega⟩, ih, EX_cons, List.append_assoc]
def sumL : Int → List Int → List Int
  | f, [] => [f]
  | f, x :: r => f :: sumL (f + x) r
theorem sumL_diff : ∀ (r : List Int) (x : Int), sumL x (diffL (x :: r)) = x :: r
  | [], _ => rfl
  | y :: r, x => by rw [diffL, sumL, show x + (y - x) = y by omega, sumL_diff r y]
theorem sumL_tail : ∀ (r : List Int) (x : Int), sumL x r = x :: (sumL x r).drop 1
  | [], _ => rfl
  | _ :: _, _ => rfl
theorem sums_l0 (l : List Int) (hl : l.length ≤ 100000) : ∀ (d i : Nat) (f : Int) (acc : List Int), i + d = l.length → acc.length ≤ i + 1 → (∀ x ∈ sumL f (l.drop i), IN60 x) → Ev (fun k => deltacol_sums.l0 k f acc l (l.length : Int) (i : Int)) (acc ++ (sumL f (l.drop i)).drop 1) := by
  intro d
  induction d with
  | zero =>
    intro i f acc h ha hb
    rw [show l.drop i = [] from List.drop_eq_nil_of_le (by omega), sumL]
    refine Ev.step (fun k => by rw [deltacol_sums.l0, if_neg (by omega)]) ?_
    rw [show List.drop 1 [f] = [] from rfl, List.append_nil]; exact Ev.now _
  | succ d ih =>
    intro i f acc h ha hb
    have hi : i < l.length := by omega
    rw [dropI hi, sumL] at hb ⊢
    have h1 : IN60 (f + l[i]) := hb _ (List.mem_cons_of_mem _ (by rw [sumL_tail]; simp))
    have hw : wrap64 (f + l[i]) = f + l[i] := by unfold IN60 at h1; unfold wrap64; omega
    have hs := ih (i + 1) (f + l[i]) (acc ++ [f + l[i]]) (by omega) (by rw [List.length_append]; simp; omega) (fun x hx => hb x (List.mem_cons_of_mem _ hx))
    rw [show acc ++ (f :: sumL (f + l[i]) (l.drop (i + 1))).drop 1 = acc ++ [f + l[i]] ++ (sumL (f + l[i]) (l.drop (i + 1))).drop 1 by
      rw [List.append_assoc]
      congr 1
      exact sumL_tail _ _]
    exact Ev.step (fun k => by rw [deltacol_sums.l0, if_pos (by omega), if_pos (by omega), if_pos (by omega), if_pos (by omega), rdI hi, hw, w1 (by omega)]) hs
theorem sums_ev (f : Int) (l : List Int) (hl : l.length ≤ 100000) (hb : ∀ x ∈ sumL f l, IN60 x) : Ev (fun k => deltacol_sums.f k f l) (sumL f l) := by
  have hw : wrap64 ((l.length : Int) + 1) = (l.length : Int) + 1 := by unfold wrap64; omega
  have hs := sums_l0 l hl l.length 0 f [f] (by omega) (by simp) (by rw [List.drop_zero]; exact hb)
  rw [List.drop_zero, show [f] ++ (sumL f l).drop 1 = sumL f l from (sumL_tail l f).symm] at hs
  refine Ev.congr (f := fun k => deltacol_sums.l0 k f [f] l (l.length : Int) 0) (fun k => ?_) hs
  rw [deltacol_sums.f, hw, if_pos (by omega), if_pos (by omega), Option.bind_some, if_pos (by simp)]; rfl
/-! ## Decode -/
theorem ev_fuel {α : Type} {g : Nat → Option α} {r : α} (d : Nat) (h : ∀ k, d < k → g k = some r) : Ev g r := ⟨d + 1, fun k hk => h k (by omega)⟩
theorem runL_all {l : List Int} (hb : ∀ x ∈ l, IN60 x) : ∀ p ∈ runL l, IN60 p.1 ∧ 1 ≤ p.2 := fun p hp => by
  obtain ⟨a, b, _⟩ := runF_pos _ _ p hp
  exact ⟨hb _ a, b⟩
theorem rrun_ev (s : ByteArray) (hs : s.size ≤ 1000000) (l : List Int) (i : Nat) (hb : ∀ x ∈ l, IN60 x) (hl : l.length ≤ 100000) (h : (bytesOf s).drop i = runB (runL l)) (hi : i ≤ s.size) : Ev (fun k => rrunG k s (i : Int) 0 (l.length : Int) []) (l, (s.size : Int), 0) := by
  have hT : TOT (runL l) = l.length := by rw [← EX_len, EX_runL]
  refine ev_fuel (runL l).length (fun k hk => ?_)
  have := rrun_is s hs (runL l) [] i k (l.length : Int) (runL_all hb) h hi (by simp [hT]) (by simp [hT]; omega) hk
  rw [this, List.nil_append, EX_runL]
theorem count_is {s : ByteArray} {n : Nat} {rest : List Int} (hn : n ≤ 20000) (h : bytesOf s = G n ++ rest) : deltacol_Count.f s = some ((n : Int), 0) := by
  have hr := RD_round n rest (by omega)
  rw [deltacol_Count.f, read_is, h, hr, Option.bind_some]
  dsimp only
  rw [if_pos rfl, if_neg (by omega)]
theorem times_ev {l : List Int} (h : TV l) (s : ByteArray) (hs : s.size ≤ 1000000) (hsb : bytesOf s = timesB l) : Ev (fun k => timesG k s ((G l.length).length : Int) 0 (l.length : Int)) (l, (s.size : Int), 0) ∧ ∃ rest, bytesOf s = G l.length ++ rest := by
  have hsz : (bytesOf s).length = s.size := by simp [bytesOf]
  have hb : ∀ x ∈ l, IN60 x := fun x hx => by have := h.2.1 x hx; exact ⟨by omega, by omega⟩
  have hd := diffL_in l h.2.1
  have hdb : ∀ x ∈ diffL l, IN60 x := fun x hx => by have := hd x hx; exact ⟨by omega, by omega⟩
  have hdd := diffL_in (diffL l) hd
  have hddb : ∀ x ∈ diffL (diffL l), IN60 x := fun x hx => by have := hdd x hx; exact ⟨by omega, by omega⟩
  have hlen := h.1
  unfold timesB encB at hsb
  match l, h, hb, hdb, hddb, hsb, hlen with
  | [], h, hb, hdb, hddb, hsb, hlen =>
    rw [if_pos (by simp)] at hsb
    simp only [List.length_nil, Int.toNat_natCast, ZL_nil, runL_nil, runB, List.flatMap_nil, List.append_nil, Int.ofNat_zero, Int.toNat_zero] at hsb
    have e := congrArg List.length hsb
    exact ⟨ev_fuel 0 (fun k _ => by simp only [timesG, List.length_nil, Int.ofNat_zero, if_true]; rw [← hsz, e]), [], by rw [hsb]; simp⟩
  | [x], h, hb, hdb, hddb, hsb, hlen =>
    rw [if_pos (by simp)] at hsb
    simp only [List.length_singleton, Int.toNat_natCast, ZL_cons, ZL_nil, runL_nil, runB, List.flatMap_nil, List.append_nil] at hsb
    have e0 : (bytesOf s).drop (G 1).length = G (zig x) ++ [] := by rw [hsb]; simp
    have hi : (G 1).length ≤ s.size := by rw [← hsz, hsb]; simp
    obtain ⟨e1, hb1, hi1⟩ := numS hs hi (hb x (by simp)) e0
    refine ⟨ev_fuel 0 (fun k _ => ?_), _, hsb⟩
    show timesG k s ((G 1).length : Int) 0 1 = _
    rw [timesG, if_neg (by omega), e1, Option.bind_some, if_pos rfl]
    have : (G 1).length + (G (zig x)).length = s.size := by rw [← hsz, hsb]; simp
    rw [this]
  | x :: y :: r, h, hb, hdb, hddb, hsb, hlen =>
    rw [if_neg (by simp)] at hsb
    have r0 : rd (x :: y :: r) 0 = x := rfl
    have r1 : rd (diffL (x :: y :: r)) 0 = y - x := rfl
    rw [r0, r1, Int.toNat_natCast, ZL_cons, ZL_cons, ZL_nil, List.append_nil, List.append_assoc] at hsb
    have hi : (G (x :: y :: r).length).length ≤ s.size := by rw [← hsz, hsb]; simp
    have e0 : (bytesOf s).drop (G (x :: y :: r).length).length = G (zig x) ++ (G (zig (y - x)) ++ runB (runL (diffL (diffL (x :: y :: r))))) := by rw [hsb, List.drop_left]
    obtain ⟨e1, hb1, hi1⟩ := numS hs hi (hb x (by simp)) e0
    obtain ⟨e2, hb2, hi2⟩ := numS hs hi1 (hdb (y - x) (by simp [diffL])) hb1
    have hdl := diffL_len (diffL (x :: y :: r))
    have hdl1 := diffL_len (x :: y :: r)
    have hrr := rrun_ev s hs (diffL (diffL (x :: y :: r))) _ hddb (by omega) hb2 hi2
    have hc : wrap64 (((x :: y :: r).length : Int) - 2) = ((diffL (diffL (x :: y :: r))).length : Int) := by
      rw [hdl, hdl1]
      simp only [List.length_cons] at hlen ⊢
      unfold wrap64; omega
    have s1 : sumL (y - x) (diffL (diffL (x :: y :: r))) = diffL (x :: y :: r) := by
      rw [show diffL (x :: y :: r) = (y - x) :: diffL (y :: r) from rfl, sumL_diff]
    have hs1 := sums_ev (y - x) (diffL (diffL (x :: y :: r))) (by omega) (by rw [s1]; exact hdb)
    have s2 : sumL x (diffL (x :: y :: r)) = x :: y :: r := sumL_diff _ _
    have hs2 := sums_ev x (diffL (x :: y :: r)) (by omega) (by rw [s2]; exact hb)
    rw [s1] at hs1
    rw [s2] at hs2
    refine ⟨?_, _, hsb⟩
    refine Ev.congr (f := fun k => (rrunG k s (((G (x :: y :: r).length).length + (G (zig x)).length + (G (zig (y - x))).length : Nat) : Int) 0 ((diffL (diffL (x :: y :: r))).length : Int) []).bind fun o => (deltacol_sums.f k (y - x) o.1).bind fun t => (deltacol_sums.f k x t).bind fun u => some (u, o.2.1, o.2.2)) (fun k => ?_) (Ev.bind hrr (Ev.bind hs1 (Ev.bind hs2 (Ev.now _))))
    rw [timesG, if_neg (by simp only [List.length_cons]; omega), e1, Option.bind_some, if_neg (by simp only [List.length_cons]; omega)]
    dsimp only
    rw [e2, Option.bind_some]
    dsimp only
    rw [hc]
theorem values_ev {l : List Int} (h : VV l) (hlen : l.length ≤ 20000) (s : ByteArray) (hs : s.size ≤ 1000000) (hsb : bytesOf s = valuesB l) : Ev (fun k => valuesG k s ((G l.length).length : Int) 0 (l.length : Int)) (l, (s.size : Int), 0) ∧ ∃ rest, bytesOf s = G l.length ++ rest := by
  have hsz : (bytesOf s).length = s.size := by simp [bytesOf]
  have hb : ∀ x ∈ l, IN60 x := fun x hx => by have := h x hx; exact ⟨by omega, by omega⟩
  have hd := diffL_in l h
  have hdb : ∀ x ∈ diffL l, IN60 x := fun x hx => by have := hd x hx; exact ⟨by omega, by omega⟩
  unfold valuesB encB at hsb
  match l, h, hb, hdb, hsb, hlen with
  | [], h, hb, hdb, hsb, hlen =>
    have e0 : bytesOf s = G 0 := by rw [hsb]; simp [ZL, diffL, runL_nil, runB]
    have e := congrArg List.length e0
    exact ⟨ev_fuel 0 (fun k _ => by simp only [valuesG, List.length_nil, Int.ofNat_zero, if_true]; rw [← hsz, e]), [], by rw [e0]; simp⟩
  | x :: r, h, hb, hdb, hsb, hlen =>
    rw [Int.toNat_natCast, show (x :: r).take 1 = [x] from rfl, ZL_cons, ZL_nil, List.append_nil] at hsb
    have hi : (G (x :: r).length).length ≤ s.size := by rw [← hsz, hsb]; simp
    have e0 : (bytesOf s).drop (G (x :: r).length).length = G (zig x) ++ runB (runL (diffL (x :: r))) := by rw [hsb, List.drop_left]
    obtain ⟨e1, hb1, hi1⟩ := numS hs hi (hb x (by simp)) e0
    have hdl1 := diffL_len (x :: r)
    have hrr := rrun_ev s hs (diffL (x :: r)) _ hdb (by omega) hb1 hi1
    have hc : wrap64 (((x :: r).length : Int) - 1) = ((diffL (x :: r)).length : Int) := by
      rw [hdl1]
      simp only [List.length_cons] at hlen ⊢
      unfold wrap64; omega
    have s2 : sumL x (diffL (x :: r)) = x :: r := sumL_diff _ _
    have hs2 := sums_ev x (diffL (x :: r)) (by omega) (by rw [s2]; exact hb)
    rw [s2] at hs2
    refine ⟨?_, _, hsb⟩
    refine Ev.congr (f := fun k => (rrunG k s (((G (x :: r).length).length + (G (zig x)).length : Nat) : Int) 0 ((diffL (x :: r)).length : Int) []).bind fun o => (deltacol_sums.f k x o.1).bind fun u => some (u, o.2.1, o.2.2)) (fun k => ?_) (Ev.bind hrr (Ev.bind hs2 (Ev.now _)))
    rw [valuesG, if_neg (by simp only [List.length_cons]; omega), e1, Option.bind_some]
    dsimp only
    rw [hc]
theorem runB_len : ∀ (L : List (Int × Int)), (∀ p ∈ L, IN60 p.1 ∧ 1 ≤ p.2 ∧ p.2 ≤ 20000) → (runB L).length ≤ 18 * L.length
  | [], _ => by simp [runB]
  | p :: r, h => by
    obtain ⟨a, b, c⟩ := h p (by simp)
    have h1 := zig_len a
    have h2 := G_len9 (n := p.2.toNat) (by omega)
    have ih := runB_len r (fun q hq => h q (by simp [hq]))
    rw [runB_cons, List.length_append, List.length_append, List.length_cons]; omega
theorem encB_len (n : Nat) (first others : List Int) (hn : n ≤ 20000) (hf : ∀ x ∈ first, IN60 x) (ho : ∀ x ∈ others, IN60 x) (lf : first.length ≤ 2) (lo : others.length ≤ 20000) : (encB (n : Int) first others).length ≤ 1000000 := by
  have hg := G_len9 (n := n) (by omega)
  have hrl := runL_len others
  have hr := runB_len (runL others) (fun p hp => by
    obtain ⟨a, b, c⟩ := runF_pos _ _ p hp
    exact ⟨ho _ a, b, by omega⟩)
  have hz : (ZL first).length ≤ 18 := by
    match first, hf, lf with
    | [], _, _ => simp [ZL]
    | [x], hf, _ => have := zig_len (hf x (by simp)); simp [ZL]; omega
    | [x, y], hf, _ => have := zig_len (hf x (by simp)); have := zig_len (hf y (by simp)); simp [ZL]; omega
    | _ :: _ :: _ :: _, _, lf => simp at lf
  unfold encB
  rw [List.length_append, List.length_append, Int.toNat_natCast]; omega
theorem timesB_len {l : List Int} (h : TV l) : (timesB l).length ≤ 1000000 ∧ ∀ b ∈ timesB l, 0 ≤ b ∧ b ≤ 255 := by
  have hlen := h.1
  have hb : ∀ x ∈ l, IN60 x := fun x hx => by have := h.2.1 x hx; exact ⟨by omega, by omega⟩
  have hd := diffL_in l h.2.1
  have hdb : ∀ x ∈ diffL l, IN60 x := fun x hx => by have := hd x hx; exact ⟨by omega, by omega⟩
  have hdd := diffL_in (diffL l) hd
  have hdl := diffL_len l
  have hddl := diffL_len (diffL l)
  unfold timesB
  split
  · exact ⟨encB_len _ _ _ hlen hb (by simp) (by omega) (by simp), encB_byte _ _ _⟩
  · refine ⟨encB_len _ _ _ hlen (fun x hx => ?_) (fun x hx => by have := hdd x hx; exact ⟨by omega, by omega⟩) (by simp) (by omega), encB_byte _ _ _⟩
    rcases List.mem_cons.1 hx with rfl | hx
    · rw [show (0 : Int) = ((0 : Nat) : Int) from rfl, rdI (show 0 < l.length by omega)]; exact hb _ (List.getElem_mem _)
    · obtain rfl := List.mem_singleton.1 hx
      rw [show (0 : Int) = ((0 : Nat) : Int) from rfl, rdI (show 0 < (diffL l).length by omega)]; exact hdb _ (List.getElem_mem _)
theorem valuesB_len {l : List Int} (h : VV l) (hlen : l.length ≤ 20000) : (valuesB l).length ≤ 1000000 ∧ ∀ b ∈ valuesB l, 0 ≤ b ∧ b ≤ 255 := by
  have hb : ∀ x ∈ l, IN60 x := fun x hx => by have := h x hx; exact ⟨by omega, by omega⟩
  have hd := diffL_in l h
  have hdl := diffL_len l
  exact ⟨encB_len _ _ _ hlen (fun x hx => hb x (List.mem_of_mem_take hx)) (fun x hx => by have := hd x hx; exact ⟨by omega, by omega⟩) (by rw [List.length_take]; omega) (by omega), encB_byte _ _ _⟩
theorem decodeTimes_ok {l : List Int} (h : TV l) : Ev (fun k => deltacol_DecodeTimes.f k (strOfNums (timesB l))) (l, 0) ∧ deltacol_Count.f (strOfNums (timesB l)) = some ((l.length : Int), 0) := by
  obtain ⟨hn, hby⟩ := timesB_len h
  have hsb := bytesOf_nums hby
  have hsz := str_size (timesB l)
  obtain ⟨ht, rest, hrest⟩ := times_ev h (strOfNums (timesB l)) (by omega) hsb
  have hlen := h.1
  refine ⟨?_, count_is hlen hrest⟩
  have e0 : (bytesOf (strOfNums (timesB l))).drop 0 = G ((l.length : Int)).toNat ++ rest := by rw [Int.toNat_natCast]; exact hrest
  obtain ⟨e1, _, _⟩ := numU (i := 0) (x := (l.length : Int)) (by omega) (Nat.zero_le _) (by omega) (by omega) e0
  rw [Int.toNat_natCast, Nat.zero_add] at e1
  refine Ev.congr (f := fun k => (timesG k (strOfNums (timesB l)) ((G l.length).length : Int) 0 (l.length : Int)).bind fun o => if o.2.2 = 0 then (if o.2.1 = ((strOfNums (timesB l)).size : Int) then ((deltacol_EncodeTimes.f k o.1).bind fun q => if q.2 = 0 then (if q.1.toList = (strOfNums (timesB l)).toList then some (o.1, 0) else some ([], 12)) else some ([], 12)) else some ([], 12)) else some ([], o.2.2)) (fun k => ?_) (Ev.bind ht ?_)
  · unfold deltacol_DecodeTimes.f colG
    have e2 : numR varint_Read.f (strOfNums (timesB l)) 0 0 = some ((l.length : Int), ((G l.length).length : Int), 0) := e1
    rw [e2, Option.bind_some]
    dsimp only
    rw [if_neg (by omega)]
  · refine Ev.congr (fun k => (if_pos rfl).trans (if_pos rfl)) ?_
    exact Ev.bind (encodeTimes_ok h) (Ev.congr (fun k => (if_pos rfl).trans (if_pos rfl)) (Ev.now _))
theorem decodeValues_ok {l : List Int} (h : VV l) (hlen : l.length ≤ 20000) (he : Ev (fun k => deltacol_EncodeValues.f k l) (strOfNums (valuesB l), 0)) : Ev (fun k => deltacol_DecodeValues.f k (strOfNums (valuesB l))) (l, 0) ∧ deltacol_Count.f (strOfNums (valuesB l)) = some ((l.length : Int), 0) := by
  obtain ⟨hn, hby⟩ := valuesB_len h hlen
  have hsb := bytesOf_nums hby
  have hsz := str_size (valuesB l)
  obtain ⟨ht, rest, hrest⟩ := values_ev h hlen (strOfNums (valuesB l)) (by omega) hsb
  refine ⟨?_, count_is hlen hrest⟩
  have e0 : (bytesOf (strOfNums (valuesB l))).drop 0 = G ((l.length : Int)).toNat ++ rest := by rw [Int.toNat_natCast]; exact hrest
  obtain ⟨e1, _, _⟩ := numU (i := 0) (x := (l.length : Int)) (by omega) (Nat.zero_le _) (by omega) (by omega) e0
  rw [Int.toNat_natCast, Nat.zero_add] at e1
  refine Ev.congr (f := fun k => (valuesG k (strOfNums (valuesB l)) ((G l.length).length : Int) 0 (l.length : Int)).bind fun o => if o.2.2 = 0 then (if o.2.1 = ((strOfNums (valuesB l)).size : Int) then ((deltacol_EncodeValues.f k o.1).bind fun q => if q.2 = 0 then (if q.1.toList = (strOfNums (valuesB l)).toList then some (o.1, 0) else some ([], 12)) else some ([], 12)) else some ([], 12)) else some ([], o.2.2)) (fun k => ?_) (Ev.bind ht ?_)
  · unfold deltacol_DecodeValues.f colG
    have e2 : numR varint_Read.f (strOfNums (valuesB l)) 0 0 = some ((l.length : Int), ((G l.length).length : Int), 0) := e1
    rw [e2, Option.bind_some]
    dsimp only
    rw [if_neg (by omega)]
  · refine Ev.congr (fun k => (if_pos rfl).trans (if_pos rfl)) ?_
    exact Ev.bind he (Ev.congr (fun k => (if_pos rfl).trans (if_pos rfl)) (Ev.now _))
end Go.Proofs.Ytbihedcjcmcjaaa.DB
