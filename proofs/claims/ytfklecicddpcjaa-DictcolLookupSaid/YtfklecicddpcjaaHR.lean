/- Several texts of this session in one. No condition beyond those in the statements. -/
import Derived.Test.YtfklecicddpcjaaHZ
import Derived.Test.YtfklecicddpcjaaAA
import Derived.Laws.CopyOwn
import Derived.WalkLawsBesides
import Derived.WalkSpells
import Derived.Test.YtfklecicddpcjaaWMore
import Derived.Lib.AppendStr
import Derived.Lib.ConvBytes
import Derived.Deep.RegionHeld3
import Derived.Deep.QuietTactic
import Derived.BigQuiet
section
namespace Go.Proofs.Ytfklecicddpcjaa.Hand
open Go.RowKit Go.Proofs.YtfklecicddpcjaaW.PrintWords Go.Proofs.YtfklecicddpcjaaW.PrintMore Go.Proofs.Ytfklecicddpcjaa.A
set_option linter.unusedVariables false
set_option linter.unusedSimpArgs false
theorem infoStr : (Try.prog.info? 9).map (fun i => (i.zero, i.size, i.bytes)) = some (some (.string ByteArray.empty), 1, 16) := by kernel_rfl
/-- How many strings of a list, from its first on, are less than x. -/
def posB (x : ByteArray) : List ByteArray → Nat
  | [] => 0
  | y :: r => if Op.bytesLess y.toList x.toList = true then posB x r + 1 else 0
theorem posB_le (x : ByteArray) : ∀ l : List ByteArray, posB x l ≤ l.length
  | [] => Nat.le_refl _
  | y :: r => by
    unfold posB
    split
    · have := posB_le x r; simp; omega
    · simp
def insS (x : ByteArray) (l : List ByteArray) : List ByteArray := l.take (posB x l) ++ x :: l.drop (posB x l)
def refD (k : Nat) : List ByteArray → List ByteArray → Option (List ByteArray)
  | [], out => some out
  | x :: r, out => (lookoutref10_index.f k out x).bind fun i => if 0 ≤ i then refD k r out else (if out.length < 4398046511104 then refD k r (insS x out) else none)
def lookoutref10_dictionary.f (k : Nat) (l0 : List ByteArray) : Option (List ByteArray) := refD k l0 []
theorem refD_mono : ∀ (l out : List ByteArray) (k : Nat), LeO (refD k l out) (refD (k + 1) l out)
  | [], _, _ => LeO.refl _
  | x :: r, out, k => LeO.bind (lookoutref10_index.mono _ _ _) (fun i => by
      split
      · exact refD_mono r out k
      · split
        · exact refD_mono r _ k
        · exact LeO.refl _)
theorem lookoutref10_dictionary.mono : ∀ a0 k, LeO (lookoutref10_dictionary.f k a0) (lookoutref10_dictionary.f (k + 1) a0) := fun a0 k => refD_mono a0 [] k
theorem addr_add (g a j : Nat) : (⟨g, a, none⟩ : Addr).add j = ⟨g, a + j, none⟩ := by
  unfold Addr.add
  split
  · rename_i h; rw [h, Nat.add_zero]
  · rfl
theorem ins_cells (out : List ByteArray) (x e : ByteArray) (a : Nat) (ha : a ≤ out.length) (L : List Value) (hL : L.take (out.length + 1) = (out ++ [e]).map Value.string) :
    ((splice L (a + 1) ((out.drop a).map Value.string)).set a (.string x)).take (out.length + 1) = (out.take a ++ x :: out.drop a).map Value.string := by
  have hlen : out.length + 1 ≤ L.length := by
    have := congrArg List.length hL
    rw [List.length_take, List.length_map, List.length_append, List.length_singleton] at this
    omega
  have h1 : L.take a = (out.take a).map Value.string := by
    have := congrArg (List.take a) hL
    rw [List.take_take, Nat.min_eq_left (by omega)] at this
    rw [this, List.map_append, List.take_append_of_le_length (by simp; omega), List.map_take]
  have h2 : (L.take a).length = a := by rw [List.length_take]; omega
  have h3 : (splice L (a + 1) ((out.drop a).map Value.string)).set a (.string x) = L.take a ++ Value.string x :: ((out.drop a).map Value.string ++ L.drop (a + 1 + ((out.drop a).map Value.string).length)) := by
    unfold splice
    rw [List.take_succ_eq_append_getElem (by omega), List.append_assoc, List.set_append_right _ _ (by omega), h2, Nat.sub_self]
    rfl
  rw [h3, h1]
  generalize L.drop (a + 1 + ((out.drop a).map Value.string).length) = R
  rw [show (out.take a).map Value.string ++ Value.string x :: ((out.drop a).map Value.string ++ R) = ((out.take a).map Value.string ++ Value.string x :: (out.drop a).map Value.string) ++ R by rw [List.append_assoc, List.cons_append]]
  rw [List.take_left' (by simp; omega)]
  simp
theorem src_cell (out : List ByteArray) (e : ByteArray) (cur : Array Value) (hL : cur.toList.take (out.length + 1) = (out ++ [e]).map Value.string) (a j : Nat) (v : Value) (h : ((out.drop a).map Value.string)[j]? = some v) : cur[a + j]? = some v := by
  rw [List.getElem?_map, List.getElem?_drop] at h
  have hlt : a + j < out.length := by
    rcases Nat.lt_or_ge (a + j) out.length with h' | h'
    · exact h'
    · rw [List.getElem?_eq_none h'] at h; cases h
  have h1 : (cur.toList.take (out.length + 1))[a + j]? = ((out ++ [e]).map Value.string)[a + j]? := by rw [hL]
  rw [List.getElem?_take, if_pos (by omega), List.getElem?_map, List.getElem?_append_left hlt, h] at h1
  rw [← Array.getElem?_toList]; exact h1
theorem cut_at (g n cap a : Nat) (h : a ≤ n) : ∃ D : Option Addr, (∀ W : World, (Instr.slice 22 (.slice (some ⟨g, 0, none⟩) n cap) (some (.int .i64 (a : Int))) none none).run Try.prog W = .ok (.slice D (n - a) (cap - a)) W) ∧ (a < cap → D = some ⟨g, a, none⟩) := by
  obtain ⟨i0, hi, hz0, hz1, hz2⟩ := info_parts infoStr
  have s1 := cut_from (P := Try.prog) 22 9 .i64 Try.underlying22 hi 1 hz1 (some ⟨g, 0, none⟩) n cap (a : Int) (by omega) (by omega)
  simp only [Int.toNat_natCast] at s1
  refine ⟨_, s1, fun hlt => ?_⟩
  rw [if_neg (by omega)]
  simp [Addr.add]
  try (intro h; exact h.symm)
set_option maxRecDepth 100000 in
set_option maxHeartbeats 8000000 in
theorem lookoutref10_dictionary.calls (k : Nat) (A0 : Option Addr) (c0 : Nat) (l0 : List ByteArray) (r : List ByteArray) (w : World) (hr0 : Kd.C Kd.string w A0 l0.length l0) (hc0 : l0.length ≤ c0) (h : lookoutref10_dictionary.f k l0 = some r) :
    Calls Try.prog 40 #[.slice A0 l0.length c0] w fun e w' => ∃ v : Value, e = .returned v ∧ Kd.R Kd.string 9 w' w.heap.size (fun _ => True) v r ∧ Below w.heap.size w w' := by
  unfold lookoutref10_dictionary.f at h
  have hm0 := hr0.2.1
  have HR0 := Aside0.mk hr0
  have HC0 := Aside0.mk hc0
  have H := Aside0.mk h
  clear hr0 hc0 h
  go_enter Try.func40, Try.ntmps40
  go_wp2_with ((with_reducible refine gate_dst (N := 6) rfl ?_); refine Kd.R_lit Kd.string _ 9 ?hg (N := 6) ?hd (xs := ([] : List ByteArray)) (inner := []) (ok := fun _ => True) (okp := fun _ => True) ?hr ?hp (fun _ hk => hk) trivial (Below.refl _ _) (Nat.le_refl _) (by simp) ?_; (case hd => rfl); (case hg => rfl); (case hr => first | (go_simp; done) | (go_simp; rfl)); (case hp => exact (Reps.none _ _)); intro v1 w1 ho1 hb1 hg_ hnew_; clear hg_ hnew_; have HB := Aside0.mk hb1; have HO := Aside0.mk ho1; clear hb1 ho1)
  obtain ⟨A1, m1, hv1, _⟩ := Kd.R_reads HO.out
  rw [List.length_nil] at hv1
  subst hv1
  go_loopw [3, 4] (fun v3 v4 wr => ∃ (i m : Nat) (A : Option Addr) (out : List ByteArray), i ≤ l0.length ∧ v4 = .int .i64 i ∧ v3 = .slice A out.length m ∧ Aside0 (refD k (l0.drop i) out = some r) ∧ Aside0 (Kd.R Kd.string 9 wr w.heap.size (fun _ => True) (.slice A out.length m) out) ∧ Aside0 (Below w.heap.size w wr))
    (fun _ v4 _ => l0.length - (intOf v4).toNat)
  case atStart => exact ⟨0, m1, A1, [], Nat.zero_le _, rfl, rfl, H, HO, HB⟩
  case round =>
    obtain ⟨i, m, A, out, hi, rfl, rfl, HE, O, B⟩ := hrel
    clear HO HB H
    by_cases ci : i < l0.length
    · have ti : decide (i < l0.length) = true := decide_eq_true ci
      obtain ⟨ad, rfl, q0⟩ := Kd.at_string (Kd.C_below HR0.out B.out) (i : Int) (by omega) (by omega)
      simp only [Int.toNat_natCast] at q0
      have hE := HE.out
      clear HE
      rw [drop_rd ci, refD] at hE
      obtain ⟨y, hy, hE1⟩ := Option.bind_eq_some_iff.1 hE
      clear hE
      obtain ⟨x, hx⟩ : ∃ x, x = rdOf ByteArray.empty l0 (i : Int) := ⟨_, rfl⟩
      have hx' : x = rdS l0 (i : Int) := hx
      rw [← hx'] at hy hE1
      rw [← hx] at q0
      have HX := Aside0.mk hx
      clear hx hx'
      have HY := Aside0.mk hy
      have HE1 := Aside0.mk hE1
      clear hy hE1
      go_wp2_with fail
      refine (lookoutref10_index.calls k A m out x y _ (Kd.R_reads' O.out).2.2 (Kd.R_reads' O.out).2.1 HY.out).mono ?_
      rintro e X1 ⟨rfl, ⟨m2, rfl⟩⟩
      clear HY
      have hE1 := HE1.out
      clear HE1
      by_cases cy : 0 ≤ y
      · rw [if_pos cy] at hE1
        have HE2 := Aside0.mk hE1
        clear hE1
        have ty : decide (0 ≤ y) = true := decide_eq_true cy
        go_wp2
        go_roundw
        case rel => exact ⟨i + 1, m, A, out, by omega, by go_num, rfl, HE2, ⟨Kd.R_drewN O.out m2⟩, ⟨pw_below_drewN B.out m2⟩⟩
        case measure => simp [intOf]; omega
      · rw [if_neg cy] at hE1
        split at hE1
        case isFalse => cases hE1
        rename_i hlen
        have HE2 := Aside0.mk hE1
        clear hE1
        have ty : decide (0 ≤ y) = false := decide_eq_false cy
        have hle := posB_le x out
        go_wp2
        go_loopw [5] (fun v5 ws => ∃ a m3 : Nat, a ≤ out.length ∧ v5 = .int .i64 a ∧ posB x (out.drop a) + a = posB x out ∧ ws = wr.drewN m3) (fun v5 _ => out.length - (intOf v5).toNat)
        case atStart => exact ⟨0, m2, Nat.zero_le _, rfl, by simp, rfl⟩
        case round =>
          obtain ⟨a, m3, ha, rfl, hp, rfl⟩ := hrel
          by_cases ca : a < out.length
          · have ta : decide (a < out.length) = true := decide_eq_true ca
            obtain ⟨ad2, rfl, q2⟩ := Kd.at_string (Kd.R_reads' O.out).2.2 (a : Int) (by omega) (by omega)
            simp only [Int.toNat_natCast] at q2
            rw [drop_rd ca, posB] at hp
            obtain ⟨z, hz⟩ : ∃ z, z = rdOf ByteArray.empty out (a : Int) := ⟨_, rfl⟩
            have hz' : z = rdS out (a : Int) := hz
            rw [← hz'] at hp
            rw [← hz] at q2
            clear hz hz'
            by_cases cz : Op.bytesLess z.toList x.toList = true
            · rw [if_pos cz] at hp
              go_wp2
              go_quiet (fail)
              go_wp2
              go_roundw
              case rel => exact ⟨a + 1, m3 + nq, by omega, by go_num, by omega, by simp [World.drewN, Nat.add_assoc]⟩
              case measure => simp [intOf]; omega
            · rw [if_neg cz] at hp
              have cz : Op.bytesLess z.toList x.toList = false := by simpa using cz
              go_wp2
              go_quiet (fail)
              have hLen : (out.length + 1) * 16 ≤ 140737488355328 := by omega
              go_wp2_with ((with_reducible refine gate_builtin (b := .append) (xs := #[.tmp 37, .tmp 38]) rfl ?_); at_builtin; refine Kd.R_append Kd.string (w0 := w) w.heap.size rfl (.tmp 37) (.tmp 38) 22 9 (.string ByteArray.empty) 16 rfl Try.underlying22 infoStr rfl (by decide) (by omega) _ out ⟨#[]⟩ [.string ⟨#[]⟩] (fun _ => True) (fun _ => False) rfl rfl ?aP (fun _ hk => hk.elim) ?aF ?aO ?aB ?aS ?aL ?_; (case aP => exact rfl); (case aB => exact pw_below_drewN B.out _); (case aF => exact fun _ _ => trivial); (case aO => exact Kd.R_drewN O.out _); (case aS => exact (pw_below_drewN B.out _).size); (case aL => exact hLen); intro v6 W6 hr6 hb6 hg6 hat6; have O6 := Aside0.mk hr6; have B6 := Aside0.mk hb6; clear hr6 hb6 hg6 hat6)
              have hpa : posB x out = a := by omega
              have HPA := Aside0.mk hpa
              clear hpa hp
              rcases R_strs O6.out with ⟨_, hn⟩ | ⟨g, cap, cur, rfl, hbg, hh, hn, hm, hs, ht, _⟩
              · exact absurd (congrArg List.length hn) (by simp)
              · have hN : (out ++ [(⟨#[]⟩ : ByteArray)]).length = out.length + 1 := by simp
                rw [hN] at hn ht ⊢
                have HH := Aside0.mk hh
                have HS := Aside0.mk hs
                have HT := Aside0.mk ht
                have HCL : Aside0 (cur.toList.length = cap) := ⟨(Array.length_toList (xs := cur)).trans hs⟩
                have hm' : cap ≤ 9223372036854775807 := hm
                clear hh hs ht hN hm
                have g1 : IntKind.i64.wrap (((a : Nat) : Int) + 1) = ((a : Nat) : Int) + 1 := IntWalk.i64_in _ (by omega)
                obtain ⟨D1, hD1, hD1'⟩ := cut_at g (out.length + 1) cap (a + 1) (by omega)
                obtain ⟨D2, hD2, hD2'⟩ := cut_at g (out.length + 1) cap a (by omega)
                rw [Int.natCast_add, Int.natCast_one] at hD1
                have HD1' := Aside0.mk hD1'
                have HD2' := Aside0.mk hD2'
                clear hD1' hD2'
                go_still_tail 7, (by kernel_rfl)
                refine wpList_copy_splice rfl (.tmp 43) (.tmp 46) 22 22 rfl 9 Try.underlying22 (by kernel_rfl) D1 D2 (out.length - a) (cap - (a + 1)) (out.length + 1 - a) (cap - a) rfl rfl g (a + 1) cur.toList 9 HH.out ((out.drop a).map Value.string) (by rw [List.length_map, List.length_drop]; exact (Nat.min_eq_right (by omega) |>.trans (by omega)).symm) (fun hpos => ?p1) (by rw [List.length_map, List.length_drop, HCL.out]; omega) (fun v hv => by obtain ⟨b, _, rfl⟩ := List.mem_map.1 hv; rfl) w.heap.size w B6.out.drew hbg ?_
                case p1 =>
                  rw [List.length_map, List.length_drop] at hpos
                  exact ⟨HD1'.out (by omega), _, HD2'.out (by omega), fun j v hj => by rw [addr_add]; exact (blk_cell HH.out _).trans (src_cell out _ cur HT.out a j v hj)⟩
                intro W7 hh7 hb7
                have HH7 : Aside0 (W7.heap[g]? = some (.cells (splice cur.toList (a + 1) ((out.drop a).map Value.string)).toArray 9 (0, 0))) := ⟨hh7⟩
                have B7 := Aside0.mk hb7
                clear hh7 hb7 g1 hD1 hD2 HD1' HD2'
                have HLen : Aside0 (cur.toList.length = cap ∧ (splice cur.toList (a + 1) ((out.drop a).map Value.string)).length = cap) := ⟨HCL.out, by rw [length_splice _ _ _ (by rw [List.length_map, List.length_drop, HCL.out]; omega), HCL.out]⟩
                obtain ⟨_, hq, q7⟩ := Kd.at_string (Kd.C_below HR0.out B7.out) (i : Int) (by omega) (by omega)
                cases hq
                simp only [Int.toNat_natCast] at q7
                rw [← HX.out] at q7
                have c7 : ∃ u, W7.cell? ⟨g, a, none⟩ = some u := by
                  refine ⟨_, (blk_cell HH7.out _).trans (Array.getElem?_eq_getElem (by have := HLen.out.2; simp only [List.size_toArray]; omega))⟩
                obtain ⟨u7, c7⟩ := c7
                have f7 := blk_frozen HH7.out a
                go_wp2
                go_roundw
                case rel =>
                  have hlI : (insS x out).length = out.length + 1 := by unfold insS; rw [HPA.out]; simp; omega
                  have hr8 := strs_R (ok := fun _ => True) (l := insS x out) hbg (blk_put HH7.out a (.string x) rfl) (by rw [hlI]; exact hn) hm' (by have := HLen.out.2; simp only [Array.size_setIfInBounds, List.size_toArray]; omega) (by rw [hlI]; unfold insS; rw [HPA.out]; have h_ := ins_cells out x ⟨#[]⟩ a ha cur.toList HT.out; simpa using h_) trivial
                  rw [hlI] at hr8
                  exact ⟨i + 1, cap, some ⟨g, 0, none⟩, insS x out, by omega, by go_num, by rw [hlI], HE2, ⟨by rw [hlI]; exact hr8⟩, ⟨B7.out.setCell hbg _⟩⟩
                case measure => simp [intOf]; omega
          · have ta : decide (a < out.length) = false := decide_eq_false ca
            rw [List.drop_eq_nil_of_le (by omega), posB] at hp
            go_wp2
            go_quiet (fail)
            have hLen : (out.length + 1) * 16 ≤ 140737488355328 := by omega
            go_wp2_with ((with_reducible refine gate_builtin (b := .append) (xs := #[.tmp 37, .tmp 38]) rfl ?_); at_builtin; refine Kd.R_append Kd.string (w0 := w) w.heap.size rfl (.tmp 37) (.tmp 38) 22 9 (.string ByteArray.empty) 16 rfl Try.underlying22 infoStr rfl (by decide) (by omega) _ out ⟨#[]⟩ [.string ⟨#[]⟩] (fun _ => True) (fun _ => False) rfl rfl ?aP (fun _ hk => hk.elim) ?aF ?aO ?aB ?aS ?aL ?_; (case aP => exact rfl); (case aB => exact pw_below_drewN B.out _); (case aF => exact fun _ _ => trivial); (case aO => exact Kd.R_drewN O.out _); (case aS => exact (pw_below_drewN B.out _).size); (case aL => exact hLen); intro v6 W6 hr6 hb6 hg6 hat6; have O6 := Aside0.mk hr6; have B6 := Aside0.mk hb6; clear hr6 hb6 hg6 hat6)
            have hpa : posB x out = a := by omega
            have HPA := Aside0.mk hpa
            clear hpa hp
            rcases R_strs O6.out with ⟨_, hn⟩ | ⟨g, cap, cur, rfl, hbg, hh, hn, hm, hs, ht, _⟩
            · exact absurd (congrArg List.length hn) (by simp)
            · have hN : (out ++ [(⟨#[]⟩ : ByteArray)]).length = out.length + 1 := by simp
              rw [hN] at hn ht ⊢
              have HH := Aside0.mk hh
              have HS := Aside0.mk hs
              have HT := Aside0.mk ht
              have HCL : Aside0 (cur.toList.length = cap) := ⟨(Array.length_toList (xs := cur)).trans hs⟩
              have hm' : cap ≤ 9223372036854775807 := hm
              clear hh hs ht hN hm
              have g1 : IntKind.i64.wrap (((a : Nat) : Int) + 1) = ((a : Nat) : Int) + 1 := IntWalk.i64_in _ (by omega)
              obtain ⟨D1, hD1, hD1'⟩ := cut_at g (out.length + 1) cap (a + 1) (by omega)
              obtain ⟨D2, hD2, hD2'⟩ := cut_at g (out.length + 1) cap a (by omega)
              rw [Int.natCast_add, Int.natCast_one] at hD1
              have HD1' := Aside0.mk hD1'
              have HD2' := Aside0.mk hD2'
              clear hD1' hD2'
              go_still_tail 7, (by kernel_rfl)
              refine wpList_copy_splice rfl (.tmp 43) (.tmp 46) 22 22 rfl 9 Try.underlying22 (by kernel_rfl) D1 D2 (out.length - a) (cap - (a + 1)) (out.length + 1 - a) (cap - a) rfl rfl g (a + 1) cur.toList 9 HH.out ((out.drop a).map Value.string) (by rw [List.length_map, List.length_drop]; exact (Nat.min_eq_right (by omega) |>.trans (by omega)).symm) (fun hpos => ?p2) (by rw [List.length_map, List.length_drop, HCL.out]; omega) (fun v hv => by obtain ⟨b, _, rfl⟩ := List.mem_map.1 hv; rfl) w.heap.size w B6.out.drew hbg ?_
              case p2 =>
                rw [List.length_map, List.length_drop] at hpos
                exact ⟨HD1'.out (by omega), _, HD2'.out (by omega), fun j v hj => by rw [addr_add]; exact (blk_cell HH.out _).trans (src_cell out _ cur HT.out a j v hj)⟩
              intro W7 hh7 hb7
              have HH7 : Aside0 (W7.heap[g]? = some (.cells (splice cur.toList (a + 1) ((out.drop a).map Value.string)).toArray 9 (0, 0))) := ⟨hh7⟩
              have B7 := Aside0.mk hb7
              clear hh7 hb7 g1 hD1 hD2 HD1' HD2'
              have HLen : Aside0 (cur.toList.length = cap ∧ (splice cur.toList (a + 1) ((out.drop a).map Value.string)).length = cap) := ⟨HCL.out, by rw [length_splice _ _ _ (by rw [List.length_map, List.length_drop, HCL.out]; omega), HCL.out]⟩
              obtain ⟨_, hq, q7⟩ := Kd.at_string (Kd.C_below HR0.out B7.out) (i : Int) (by omega) (by omega)
              cases hq
              simp only [Int.toNat_natCast] at q7
              rw [← HX.out] at q7
              have c7 : ∃ u, W7.cell? ⟨g, a, none⟩ = some u := by
                refine ⟨_, (blk_cell HH7.out _).trans (Array.getElem?_eq_getElem (by have := HLen.out.2; simp only [List.size_toArray]; omega))⟩
              obtain ⟨u7, c7⟩ := c7
              have f7 := blk_frozen HH7.out a
              go_wp2
              go_roundw
              case rel =>
                have hlI : (insS x out).length = out.length + 1 := by unfold insS; rw [HPA.out]; simp; omega
                have hr8 := strs_R (ok := fun _ => True) (l := insS x out) hbg (blk_put HH7.out a (.string x) rfl) (by rw [hlI]; exact hn) hm' (by have := HLen.out.2; simp only [Array.size_setIfInBounds, List.size_toArray]; omega) (by rw [hlI]; unfold insS; rw [HPA.out]; have h_ := ins_cells out x ⟨#[]⟩ a ha cur.toList HT.out; simpa using h_) trivial
                rw [hlI] at hr8
                exact ⟨i + 1, cap, some ⟨g, 0, none⟩, insS x out, by omega, by go_num, by rw [hlI], HE2, ⟨by rw [hlI]; exact hr8⟩, ⟨B7.out.setCell hbg _⟩⟩
              case measure => simp [intOf]; omega
    · have ti : decide (i < l0.length) = false := decide_eq_false ci
      obtain rfl : i = l0.length := by omega
      have hE := HE.out
      clear HE
      rw [List.drop_length, refD] at hE
      cases hE
      go_wp2
      go_ret
      exact ⟨_, rfl, O.out, B.out⟩
end Go.Proofs.Ytfklecicddpcjaa.Hand
end
section
namespace Go.Proofs.Ytfklecicddpcjaa.Hand
open Go.RowKit Go.Proofs.YtfklecicddpcjaaW.PrintWords Go.Proofs.YtfklecicddpcjaaW.PrintMore
set_option linter.unusedVariables false
set_option linter.unusedSimpArgs false
/-- A row of bytes of the call's own whose mark lies behind its cells. -/
def RowG (w : World) (base : Nat) (v : Value) (xs : List Int) : Prop :=
  ∃ g cap cur fz, v = .slice (some ⟨g, 0, none⟩) xs.length cap ∧ base ≤ g ∧ w.heap[g]? = some (.cells cur 5 fz) ∧ cap ≤ fz.1 ∧ xs.length ≤ cap ∧ cap ≤ maxLen ∧ cur.size = cap ∧ cur.toList.take xs.length = nums .u8 xs
def OutRow (w : World) (base : Nat) (v : Value) (xs : List Int) : Prop := w.ownsRow base 5 1 v xs.length (nums .u8 xs) ∨ RowG w base v xs
theorem OutRow.move {w w1 : World} {base : Nat} {v : Value} {xs : List Int} (h : OutRow w base v xs) (hm : ∀ k, k < w.heap.size → w1.heap[k]? = w.heap[k]?) : OutRow w1 base v xs := by
  rcases h with h | ⟨g, cap, cur, fz, h1, h2, h3, h4⟩
  · refine .inl (own_move h (fun k hk => hm k ?_))
    rcases h.2 with ⟨rfl, _⟩ | ⟨g, cap, cur, rfl, _, hg, _⟩
    · simp [Value.ownBlock] at hk
    · simp only [Value.ownBlock, Option.some.injEq] at hk
      subst hk
      exact (Array.getElem?_eq_some_iff.1 hg).1
  · exact .inr ⟨g, cap, cur, fz, h1, h2, (hm g (Array.getElem?_eq_some_iff.1 h3).1).trans h3, h4⟩
theorem OutRow.below {w w1 : World} {base : Nat} {v : Value} {xs : List Int} (h : OutRow w base v xs) (hb : Below w.heap.size w w1) : OutRow w1 base v xs := h.move hb.block
theorem OutRow.base {w : World} {base : Nat} {v : Value} {xs : List Int} (h : OutRow w base v xs) : ∀ k, v.ownBlock = some k → base ≤ k := by
  intro k hk
  rcases h with h | ⟨g, cap, cur, fz, rfl, h2, _⟩
  · rcases h.2 with ⟨rfl, _⟩ | ⟨g, cap, cur, rfl, hb, _⟩
    · simp [Value.ownBlock] at hk
    · simp only [Value.ownBlock, Option.some.injEq] at hk; omega
  · simp only [Value.ownBlock, Option.some.injEq] at hk; omega
theorem OutRow.slice {w : World} {base : Nat} {v : Value} {xs : List Int} (h : OutRow w base v xs) : ∃ A c, v = .slice A xs.length c := by
  rcases h with h | ⟨g, cap, cur, fz, h1, _⟩
  · rcases h.2 with ⟨rfl, hn⟩ | ⟨g, cap, cur, rfl, _⟩
    · exact ⟨none, 0, by rw [hn]⟩
    · exact ⟨_, _, rfl⟩
  · exact ⟨_, _, h1⟩
theorem OutRow.reads {w : World} {base : Nat} {A : Option Addr} {n c : Nat} {xs : List Int} (h : OutRow w base (.slice A n c) xs) : n = xs.length ∧ Kd.C (Kd.int .u8) w A xs.length xs := by
  rcases h with h | ⟨g, cap, cur, fz, h1, h2, h3, h4, h5, h6, h7, h8⟩
  · exact ⟨(Kd.R_reads' (Kd.R_of_own (h1 := fun _ => rfl) h (ok := fun _ => True) (fun _ _ => trivial))).1, (Kd.R_reads' (Kd.R_of_own (h1 := fun _ => rfl) h (ok := fun _ => True) (fun _ _ => trivial))).2.2⟩
  · cases h1
    refine ⟨rfl, Kd.C_of_reads (enc := Value.int .u8) (d := (0 : Int)) ⟨rfl, Nat.le_trans h5 h6, fun _ => ⟨_, rfl, fun j hj => ?_⟩⟩⟩
    have h9 : (cur.toList.take xs.length)[j]? = (nums .u8 xs)[j]? := by rw [h8]
    rw [List.getElem?_take, if_pos hj, Array.getElem?_toList] at h9
    rw [show (⟨g, 0, none⟩ : Addr).add j = ⟨g, j, none⟩ from by unfold Addr.add; split <;> simp_all]
    simp only [World.cell?, h3]
    rw [h9]
    simp [nums, List.getD_eq_getElem?_getD, List.getElem?_eq_getElem hj]
theorem heap_setG {w : World} {g t : Nat} {cur : Array Value} {fz : Nat × Nat} (h : w.heap[g]? = some (.cells cur t fz)) (j : Nat) (v : Value) : (w.setCell ⟨g, j, none⟩ v).heap[g]? = some (.cells (cur.setIfInBounds j v) t fz) := by
  simp only [World.setCell, Array.getElem?_modify, h]
  simp
theorem storeG (P : Program) (g o t : Nat) (fz : Nat × Nat) : ∀ (vs : List Value) (i : Nat) (cur : Array Value) (w : World), w.heap[g]? = some (.cells cur t fz) → cur.size ≤ fz.1 → o + i + vs.length ≤ cur.size → (∀ v ∈ vs, v.oneCell' = true) →
    ∃ (w' : World) (cur' : Array Value), (storeCells ⟨g, o, none⟩ vs i).run P w = .ok () w' ∧ w'.heap[g]? = some (.cells cur' t fz) ∧ w.grownBy w' (some g) ∧ cur'.size = cur.size ∧ cur'.toList.take (o + i + vs.length) = cur.toList.take (o + i) ++ vs
  | [], i, cur, w, hg, _, _, _ => ⟨w, cur, rfl, hg, World.grownBy.refl _ _, rfl, by simp⟩
  | v :: rest, i, cur, w, hg, hfz, hl, h1 => by
    simp only [List.length_cons] at hl
    have hi : o + i < cur.size := by omega
    have hadd : (⟨g, o, none⟩ : Addr).add i = ⟨g, o + i, none⟩ := by unfold Addr.add; split <;> simp_all
    have hcell : w.cell? ⟨g, o + i, none⟩ = some cur[o + i] := by simp [World.cell?, hg, hi]
    have hfro : w.frozen? ⟨g, o + i, none⟩ = false := by
      obtain ⟨lo, hi'⟩ := fz
      simp only [World.frozen?, hg, Bool.and_eq_false_iff, decide_eq_false_iff_not]
      left
      simp only at hfz
      omega
    have hst : (store ((⟨g, o, none⟩ : Addr).add i) v).run P w = .ok () (w.setCell ⟨g, o + i, none⟩ v) := by
      rw [hadd, run_store P w _ v _ (h1 v (by simp)), hcell]
      simp [hfro]
    obtain ⟨w', cur', r1, r2, r3, r4, r5⟩ := storeG P g o t fz rest (i + 1) (cur.setIfInBounds (o + i) v) (w.setCell ⟨g, o + i, none⟩ v) (heap_setG hg _ _) (by simpa using hfz) (by simp; omega) (fun x hx => h1 x (by simp [hx]))
    refine ⟨w', cur', ?_, r2, World.grownBy.trans (grownBy_setCell' w g v |> fun h => ?_) r3, by simpa using r4, ?_⟩
    · simp only [storeCells, Sem.run_bind, hst, Result.andThen_ok, r1]
    · exact ⟨rfl, rfl, rfl, by simp [World.setCell], fun k hk hne => Below.heap_setCell w ⟨g, o + i, none⟩ v k (fun e => hne (by rw [e]))⟩
    · rw [show o + i + (v :: rest).length = o + (i + 1) + rest.length by simp; omega, r5, Array.toList_setIfInBounds, show o + (i + 1) = o + i + 1 by omega, List.take_succ_eq_append_getElem (by simp; omega), List.take_set_of_le (Nat.le_refl _)]
      simp
theorem out_append {P : Program} (w : World) (base : Nat) (t u ty : TypeId) (ht : P.underlying t = some (.slice 5)) (hu : P.underlying u = some .string) (hinfo : (P.info? 5).map (fun i => (i.zero, i.size, i.bytes)) = some (some (.int .u8 0), 1, 1))
    (v : Value) (xs : List Int) (y : ByteArray) (h : OutRow w base v xs) (hl : xs.length + y.size ≤ 140737488355328) (hbase : base ≤ w.heap.size) :
    ∃ v' w', (Builtin.append_ #[t, u] ty #[v, .string y]).run P w = .ok v' w' ∧ OutRow w' base v' (xs ++ bytesOf y) ∧ w.grownBy w' v.ownBlock := by
  obtain ⟨i0, hi, hz0, hz1, hz2⟩ := info_parts hinfo
  have hl2 : (xs ++ bytesOf y).length = xs.length + y.size := by rw [List.length_append, bytesOf_length]
  have hc : nums .u8 (xs ++ bytesOf y) = nums .u8 xs ++ Lib.strCells y := by
    rw [nums_append]
    congr 1
    simp [nums, bytesOf, Lib.strCells]
  rcases h with h | ⟨g, cap, cur, fz, rfl, h2, h3, h4, h5, h6, h7, h8⟩
  · obtain ⟨v', w', r1, r2, r3, _⟩ := Lib.run_append_own_string (P := P) w base t u ty 5 i0 ht hu hi hz0 hz1 hz2 v xs.length (nums .u8 xs) h y (by unfold maxLen; omega) hl hbase
    exact ⟨v', w', r1, .inl (by rw [hl2, hc]; exact r2), r3⟩
  · have hnl : (nums .u8 xs).length = xs.length := by simp [nums]
    by_cases hroom : xs.length + y.size ≤ cap
    · have hf := Lib.run_firstCells_string (P := P) w 1 y
      obtain ⟨w', cur', s1, s2, s3, s4, s5⟩ := storeG P g xs.length 5 fz (Lib.strCells y) 0 cur w h3 (by omega) (by rw [Lib.strCells_length]; omega) (Lib.strCells_oneCell y)
      refine ⟨.slice (some ⟨g, 0, none⟩) (xs.length + y.size) cap, w', ?_, .inr ⟨g, cap, cur', fz, by rw [hl2], h2, s2, h4, by omega, h6, by omega, ?_⟩, s3⟩
      · simp [Builtin.append_, run_underlying ht, run_underlying hu, sizeOf, typeInfo, hi, hz1, Builtin.lenOf, hroom, hf, Addr.add_lit, s1]
      · rw [Lib.strCells_length, Nat.add_zero, h8] at s5
        rw [hl2, hc, s5]
    · have holds : ∀ j q, (nums .u8 xs)[j]? = some q → w.cell? ((⟨g, 0, none⟩ : Addr).add j) = some q := by
        intro j q hj
        have hlt : j < xs.length := by rw [← hnl]; exact (List.getElem?_eq_some_iff.1 hj).1
        have h9 : (cur.toList.take xs.length)[j]? = (nums .u8 xs)[j]? := by rw [h8]
        rw [List.getElem?_take, if_pos hlt, Array.getElem?_toList] at h9
        rw [show (⟨g, 0, none⟩ : Addr).add j = ⟨g, j, none⟩ from by unfold Addr.add; split <;> simp_all]
        simp only [World.cell?, h3]
        rw [h9]; exact hj
      have hr := Lib.run_append_grow_string (P := P) w t u ty 5 i0 (.int .u8 0) ht hu hi hz0 ⟨g, 0, none⟩ xs.length cap (nums .u8 xs) (by rw [hz1, hnl, Nat.mul_one]) holds y (by omega) (by omega) (by rw [hz2]; exact growslice_fits (by omega) (by omega))
      have hge := grownCap_ge w (xs.length + y.size) cap 5
      have hcm2 : grownCap w (xs.length + y.size) cap 5 ≤ maxLen := grownCap_le_maxLen w (xs.length + y.size) cap 5 (by unfold maxLen; omega)
      refine ⟨_, _, hr, .inl ⟨by rw [hl2, hc]; simp [hnl, Lib.strCells_length], .inr ⟨w.heap.size, _, _, by rw [hl2], hbase, heap_alloc_new w.drew _, by rw [hl2]; exact hge, hcm2, ?_, ?_⟩⟩, ⟨rfl, rfl, rfl, by simp, fun k hk _ => Below.heap_alloc w.drew _ k hk⟩⟩
      · have hz1 : (Value.int IntKind.u8 0).cells.size = 1 := rfl
        simp only [Array.size_append, List.size_toArray, size_zeroCells, hz1, hnl, Lib.strCells_length]
        omega
      · simp only [Array.toList_append, List.append_assoc]
        rw [← List.append_assoc, hl2, hc, List.take_left' (by simp [hnl, Lib.strCells_length])]
section
variable {P : Program} {ops : Array Oper} {rest : List Oper} {o : Oper} {a : Act} {Q : Exit → Act → World → Prop} {Kc : Act → World → Prop}
theorem wpList_out {W : World} (base : Nat) (hgd : o.guard = none) (s x : Operand) (t u : TypeId) (ho : o.op = .call { callee := .builtin .append, args := #[s, x], argTypes := #[t, u] })
    (ht : P.underlying t = some (.slice 5)) (hu : P.underlying u = some .string) (hinfo : (P.info? 5).map (fun i => (i.zero, i.size, i.bytes)) = some (some (.int .u8 0), 1, 1))
    (v : Value) (xs : List Int) (y : ByteArray) (hs : a.eval s = v) (hx : a.eval x = .string y) (HO : OutRow W base v xs) (hbase : base ≤ W.heap.size) (hl : xs.length + y.size ≤ 140737488355328)
    (h : ∀ v1 w1, OutRow w1 base v1 (xs ++ bytesOf y) → W.grownBy w1 v.ownBlock → wpList P ops Q rest (a.put o.dst v1) w1) : wpList P ops Q (o :: rest) a W := by
  refine wpList_plain hgd fun K hK => ?_
  obtain ⟨v', w', hr, h2, h3⟩ := out_append (P := P) W base t u o.type ht hu hinfo v xs y HO hl hbase
  unfold Oper.wp execOp
  simp only [ho, resolve, invoke, builtin, Sem.run_bind, Sem.run_pure, Result.andThen_ok, List.map_toArray, List.map_cons, List.map_nil, hs, hx, hr]
  exact hK _ _ (h v' w' h2 h3)
theorem step_out {W : World} (base : Nat) (hw : Region.wanted o (yielded ops a.tmps) = true) (s x : Operand) (t u : TypeId) (ho : o.op = .call { callee := .builtin .append, args := #[s, x], argTypes := #[t, u] })
    (ht : P.underlying t = some (.slice 5)) (hu : P.underlying u = some .string) (hinfo : (P.info? 5).map (fun i => (i.zero, i.size, i.bytes)) = some (some (.int .u8 0), 1, 1))
    (v : Value) (xs : List Int) (y : ByteArray) (hs : a.eval s = v) (hx : a.eval x = .string y) (HO : OutRow W base v xs) (hbase : base ≤ W.heap.size) (hl : xs.length + y.size ≤ 140737488355328)
    (h : ∀ v1 w1, OutRow w1 base v1 (xs ++ bytesOf y) → W.grownBy w1 v.ownBlock → Kc (a.put o.dst v1) w1) : if Region.wanted o (yielded ops a.tmps) = true then Oper.wp P o a W Kc Q else Kc (a.put o.dst undef) W := by
  rw [if_pos hw]
  obtain ⟨v', w', hr, h2, h3⟩ := out_append (P := P) W base t u o.type ht hu hinfo v xs y HO hl hbase
  unfold Oper.wp execOp
  simp only [ho, resolve, invoke, builtin, Sem.run_bind, Sem.run_pure, Result.andThen_ok, List.map_toArray, List.map_cons, List.map_nil, hs, hx, hr]
  exact h v' w' h2 h3
end
/-- The row that a conversion of a string makes. -/
theorem OutRow.conv (w : World) (base : Nat) (s : ByteArray) (hb : base ≤ w.heap.size) (hs : s.size ≤ maxLen) : OutRow (Lib.bytesWorld w 5 s) base (.slice (some ⟨w.heap.size, 0, none⟩) s.size (grownCap w s.size 0 5)) (bytesOf s) := by
  have hge := grownCap_ge w s.size 0 5
  have hsz : (Lib.bytesCells w 5 s).size = grownCap w s.size 0 5 := by
    have : s.data.size = s.size := rfl
    simp only [Lib.bytesCells, Array.size_append, Array.size_map, Array.size_replicate]; omega
  refine .inr ⟨w.heap.size, _, _, _, by rw [bytesOf_length], hb, Lib.bytesWorld_at_new w 5 s, by rw [hsz]; exact Nat.le_refl _, by rw [bytesOf_length]; exact hge, grownCap_le_maxLen w s.size 0 5 hs, hsz, ?_⟩
  rw [bytesOf_length]
  have e : (Lib.bytesCells w 5 s).toList = nums .u8 (bytesOf s) ++ List.replicate (grownCap w s.size 0 5 - s.size) (.int .u8 0) := by
    simp [Lib.bytesCells, nums, bytesOf]
  rw [e, List.take_left' (by simp [nums, bytesOf_length])]
theorem below_conv (w : World) (s : ByteArray) : Below w.heap.size w (Lib.bytesWorld w 5 s) :=
  ⟨rfl, rfl, rfl, by rw [Lib.bytesWorld_size]; omega, fun k hk => Lib.bytesWorld_at_old w _ s k hk⟩
end Go.Proofs.Ytfklecicddpcjaa.Hand
end
section
namespace Go.Proofs.Ytfklecicddpcjaa.Hand
open Go.RowKit Go.Proofs.YtfklecicddpcjaaW.PrintWords Go.Proofs.YtfklecicddpcjaaW.PrintMore Go.Proofs.Ytfklecicddpcjaa.A
set_option linter.unusedVariables false
set_option linter.unusedSimpArgs false
def comO (k : Nat) : Option ByteArray → ByteArray → Option Int
  | none, _ => some 0
  | some q, s => lookoutref10_common.f k q s
def rdG (k : Nat) : List ByteArray → Option ByteArray → List Int → Option (List Int)
  | [], _, b => some b
  | s :: r, prev, b => (comO k prev s).bind fun c => if 0 ≤ c ∧ c ≤ (s.size : Int) then ((lookoutref10_number.f k c).bind fun n1 => (lookoutref10_number.f k ((s.size : Int) - c)).bind fun n2 => if b.length + (n1.size + n2.size + s.size) ≤ 140737488355328 then rdG k r (some s) (b ++ bytesOf (n1 ++ n2 ++ s.extract c.toNat s.size)) else none) else none
def rrG (k : Nat) (d : List ByteArray) : List (ByteArray × Int) → List Int → Option (List Int)
  | [], b => some b
  | p :: r, b => (lookoutref10_index.f k d p.1).bind fun i => (lookoutref10_number.f k i).bind fun n1 => (lookoutref10_number.f k (p.2 - 1)).bind fun n2 => if b.length + (n1.size + n2.size) ≤ 140737488355328 then rrG k d r (b ++ bytesOf (n1 ++ n2)) else none
def refEncG (k : Nat) (l d : List ByteArray) : Option (List Int) := (lookoutref10_number.f k l.length).bind fun n0 => (lookoutref10_number.f k d.length).bind fun n1 => if n0.size + n1.size ≤ 140737488355328 then ((rdG k d none (bytesOf (n0 ++ n1))).bind fun b => rrG k d (runL l) b) else none
def longAny (l : List ByteArray) : Bool := l.any fun s => decide (1000 < s.size)
def lookoutref10_Encode.f (k : Nat) (l0 : List ByteArray) : Option (ByteArray × Int) :=
  if (l0.length : Int) > 2000 then some (⟨#[]⟩, 4) else if longAny l0 = true then some (⟨#[]⟩, 4) else (lookoutref10_dictionary.f k l0).bind fun d => (refEncG k l0 d).bind fun b => if (b.length : Int) > 1048576 then some (⟨#[]⟩, 4) else some (strOfNums b, 0)
theorem comO_mono : ∀ (p : Option ByteArray) (s : ByteArray) (k : Nat), LeO (comO k p s) (comO (k + 1) p s)
  | none, _, _ => LeO.refl _
  | some q, s, k => lookoutref10_common.mono _ _ _
theorem rdG_mono : ∀ (d : List ByteArray) (p : Option ByteArray) (b : List Int) (k : Nat), LeO (rdG k d p b) (rdG (k + 1) d p b)
  | [], _, _, _ => LeO.refl _
  | s :: r, p, b, k => LeO.bind (comO_mono _ _ _) (fun c => by
      split
      · exact LeO.bind (lookoutref10_number.mono _ _) (fun n1 => LeO.bind (lookoutref10_number.mono _ _) (fun n2 => by
          split
          · exact rdG_mono r _ _ k
          · exact LeO.refl _))
      · exact LeO.refl _)
theorem rrG_mono (d : List ByteArray) : ∀ (l : List (ByteArray × Int)) (b : List Int) (k : Nat), LeO (rrG k d l b) (rrG (k + 1) d l b)
  | [], _, _ => LeO.refl _
  | p :: r, b, k => LeO.bind (lookoutref10_index.mono _ _ _) (fun i => LeO.bind (lookoutref10_number.mono _ _) (fun n1 => LeO.bind (lookoutref10_number.mono _ _) (fun n2 => by
      split
      · exact rrG_mono d r _ k
      · exact LeO.refl _)))
theorem refEncG_mono (l d : List ByteArray) (k : Nat) : LeO (refEncG k l d) (refEncG (k + 1) l d) :=
  LeO.bind (lookoutref10_number.mono _ _) (fun n0 => LeO.bind (lookoutref10_number.mono _ _) (fun n1 => by
    split
    · exact LeO.bind (rdG_mono _ _ _ _) (fun b => rrG_mono _ _ _ _)
    · exact LeO.refl _))
theorem lookoutref10_Encode.mono : ∀ a0 k, LeO (lookoutref10_Encode.f k a0) (lookoutref10_Encode.f (k + 1) a0) := by
  intro a0 k
  unfold lookoutref10_Encode.f
  split
  · exact LeO.refl _
  · split
    · exact LeO.refl _
    · exact LeO.bind (lookoutref10_dictionary.mono _ _) (fun d => LeO.bind (refEncG_mono _ _ _) (fun b => LeO.refl _))
def prevO (d : List ByteArray) : Nat → Option ByteArray
  | 0 => none
  | j + 1 => some (rdOf ByteArray.empty d (j : Int))
theorem longAny_take {l : List ByteArray} {i : Nat} (h : i < l.length) (h0 : longAny (l.take i) = false) : longAny (l.take (i + 1)) = decide (1000 < (rdOf ByteArray.empty l (i : Int)).size) := by
  have e : rdOf ByteArray.empty l (i : Int) = l[i] := by simp [rdOf, List.getD_eq_getElem?_getD, List.getElem?_eq_getElem h]
  rw [e, List.take_succ_eq_append_getElem h]
  unfold longAny at h0 ⊢
  rw [List.any_append, h0]
  simp
theorem longAny_mono {l : List ByteArray} {i : Nat} (h : longAny (l.take i) = true) : longAny l = true := by
  unfold longAny at h ⊢
  rw [List.any_eq_true] at h ⊢
  obtain ⟨x, hx, hp⟩ := h
  exact ⟨x, List.mem_of_mem_take hx, hp⟩
set_option maxRecDepth 100000 in
set_option maxHeartbeats 8000000 in
theorem lookoutref10_Encode.calls (k : Nat) (A0 : Option Addr) (c0 : Nat) (l0 : List ByteArray) (r1 : ByteArray) (r2 : Int) (w : World) (hr0 : Kd.C Kd.string w A0 l0.length l0) (hc0 : l0.length ≤ c0) (h : lookoutref10_Encode.f k l0 = some (r1, r2)) :
    Calls Try.prog 14 #[.slice A0 l0.length c0] w fun e w' => e = .returned (.tuple #[.string r1, .int .i64 r2]) ∧ Below w.heap.size w w' := by
  unfold lookoutref10_Encode.f at h
  have hm0 := hr0.2.1
  have HR0 := Aside0.mk hr0
  have HC0 := Aside0.mk hc0
  clear hr0 hc0
  by_cases c1 : (l0.length : Int) > 2000
  · rw [if_pos c1] at h
    cases h
    have t1 : decide (2000 < l0.length) = true := decide_eq_true (by omega)
    have t1' : decide ((2000 : Int) < (l0.length : Int)) = true := decide_eq_true c1
    go_enter Try.func14, Try.ntmps14
    go_wp2
    go_ret2
    exact ⟨rfl, Below.refl _ _⟩
  · rw [if_neg c1] at h
    have t1 : decide (2000 < l0.length) = false := decide_eq_false (by omega)
    have t1' : decide ((2000 : Int) < (l0.length : Int)) = false := decide_eq_false c1
    have H := Aside0.mk h
    clear h c1
    have hcv := fun (W : World) (s : ByteArray) => Lib.run_convert_string_bytes (P := Try.prog) W 9 48 5 s Try.underlying9 Try.underlying48 Try.underlying5
    go_enter Try.func14, Try.ntmps14
    go_wp2
    go_loop [4] (fun v4 => ∃ i : Nat, i ≤ l0.length ∧ v4 = .int .i64 i ∧ Aside0 (longAny (l0.take i) = false)) (fun v4 => l0.length - (intOf v4).toNat)
    case atStart => exact ⟨0, Nat.zero_le _, rfl, ⟨rfl⟩⟩
    case round =>
      obtain ⟨i, hi, rfl, HA⟩ := hrel
      by_cases ci : i < l0.length
      · have ti : decide (i < l0.length) = true := decide_eq_true ci
        obtain ⟨ad, rfl, q0⟩ := Kd.at_string HR0.out (i : Int) (by omega) (by omega)
        simp only [Int.toNat_natCast] at q0
        have hla := longAny_take ci HA.out
        generalize rdOf ByteArray.empty l0 (i : Int) = s at q0 hla
        by_cases cs : 1000 < s.size
        · have t2 : decide (1000 < s.size) = true := decide_eq_true cs
          have t2' : decide ((1000 : Int) < (s.size : Int)) = true := decide_eq_true (by omega)
          rw [t2] at hla
          have h := H.out
          rw [if_pos (longAny_mono hla)] at h
          cases h
          clear hla
          go_wp2
          go_ret2
          exact ⟨rfl, Below.refl _ _⟩
        · have t2 : decide (1000 < s.size) = false := decide_eq_false cs
          have t2' : decide ((1000 : Int) < (s.size : Int)) = false := decide_eq_false (by omega)
          rw [t2] at hla
          have HLA := Aside0.mk hla
          clear hla
          go_wp2
          go_round
          case rel => exact ⟨i + 1, by omega, by go_num, HLA⟩
          case measure => simp [intOf]; omega
      · have ti : decide (i < l0.length) = false := decide_eq_false ci
        obtain rfl : i = l0.length := by omega
        have h := H.out
        have ha := HA.out
        rw [List.take_length] at ha
        rw [if_neg (by rw [ha]; simp)] at h
        clear ha HA H
        obtain ⟨d, hd, h1⟩ := Option.bind_eq_some_iff.1 h
        clear h
        obtain ⟨b3, hb3, h2⟩ := Option.bind_eq_some_iff.1 h1
        clear h1
        unfold refEncG at hb3
        obtain ⟨n0, hn0, hb4⟩ := Option.bind_eq_some_iff.1 hb3
        clear hb3
        obtain ⟨n1, hn1, hb5⟩ := Option.bind_eq_some_iff.1 hb4
        clear hb4
        split at hb5
        case isFalse => cases hb5
        rename_i hsz
        obtain ⟨b2, hb2, hb6⟩ := Option.bind_eq_some_iff.1 hb5
        clear hb5
        have HD := Aside0.mk hd
        have H2 := Aside0.mk h2
        have HN0 := Aside0.mk hn0
        have HN1 := Aside0.mk hn1
        have HB2 := Aside0.mk hb2
        have HB3 := Aside0.mk hb6
        clear hd h2 hn0 hn1 hb2 hb6
        go_wp2_with fail
        refine (lookoutref10_dictionary.calls k A0 c0 l0 d w HR0.out HC0.out HD.out).mono ?_
        rintro e W1 ⟨v1, rfl, hr1, hb1⟩
        obtain ⟨A1, c1, rfl, hc1, hC1⟩ := Kd.R_reads hr1
        have C1 := Aside0.mk hC1
        have L1 := Aside0.mk hc1
        have B1 := Aside0.mk hb1
        clear hr1 hb1 hc1 hC1 HD
        go_wp2_with fail
        refine (lookoutref10_number.calls k _ n0 _ HN0.out).mono ?_
        rintro e W2 ⟨rfl, hb2⟩
        have B2 := Aside0.mk hb2
        clear hb2 HN0
        go_wp2_with fail
        refine (lookoutref10_number.calls k _ n1 _ HN1.out).mono ?_
        rintro e W3 ⟨rfl, hb3⟩
        have B3 := Aside0.mk (B2.out.trans (hb3.mono B2.out.size))
        clear hb3 HN1 B2
        have g0 : n0.size + n1.size ≤ 9223372036854775807 := by omega
        go_wp2_with fail
        obtain ⟨W4, hW4⟩ : ∃ W4, W4 = Lib.bytesWorld W3 5 (n0 ++ n1) := ⟨_, rfl⟩
        obtain ⟨y0, hy0⟩ : ∃ y0, y0 = bytesOf (n0 ++ n1) := ⟨_, rfl⟩
        have hyl : y0.length = n0.size + n1.size := by rw [hy0, bytesOf_length, ByteArray.size_append]
        have O4 : Aside0 (OutRow W4 W1.heap.size (.slice (some ⟨W3.heap.size, 0, none⟩) y0.length (grownCap W3 (n0.size + n1.size) 0 5)) y0) := ⟨by
          have h := OutRow.conv W3 W1.heap.size (n0 ++ n1) B3.out.size (by rw [ByteArray.size_append]; unfold maxLen; omega)
          rw [ByteArray.size_append, ← hW4, ← hy0, ← hyl] at h
          rw [← hyl]; exact h⟩
        have B4 : Aside0 (Below W1.heap.size W1 W4) := ⟨by rw [hW4]; exact B3.out.trans ((below_conv W3 _).mono B3.out.size)⟩
        rw [← hy0] at HB2
        rw [← hW4, ← hyl]
        rw [← hyl] at O4
        clear hW4 hy0 hcv g0 hsz B3 hyl
        go_loopw [6, 7] (fun v6 v7 wr => ∃ (j : Nat) (A : Option Addr) (c : Nat) (b : List Int), j ≤ d.length ∧ v7 = .int .i64 j ∧ v6 = .slice A b.length c ∧ Aside0 (rdG k (d.drop j) (prevO d j) b = some b2) ∧ Aside0 (OutRow wr W1.heap.size (.slice A b.length c) b) ∧ Aside0 (Below W1.heap.size W1 wr))
          (fun _ v7 _ => d.length - (intOf v7).toNat)
        case atStart => exact ⟨0, _, _, y0, Nat.zero_le _, rfl, rfl, HB2, O4, B4⟩
        case round =>
          obtain ⟨j, A, c, b, hj, rfl, rfl, HE, O, B⟩ := hrel
          clear O4 B4 HB2
          by_cases cj : j < d.length
          · have tj : decide (j < d.length) = true := decide_eq_true cj
            obtain ⟨ad, rfl, q0⟩ := Kd.at_string (Kd.C_below C1.out B.out) (j : Int) (by omega) (by omega)
            simp only [Int.toNat_natCast] at q0
            have hE := HE.out
            clear HE
            rw [drop_rd cj, rdG] at hE
            obtain ⟨p, hp, hE1⟩ := Option.bind_eq_some_iff.1 hE
            clear hE
            split at hE1
            case isFalse => cases hE1
            rename_i hpb
            obtain ⟨hp0, hp1⟩ := hpb
            obtain ⟨m1, hm1, hE2⟩ := Option.bind_eq_some_iff.1 hE1
            clear hE1
            obtain ⟨m2, hm2, hE3⟩ := Option.bind_eq_some_iff.1 hE2
            clear hE2
            split at hE3
            case isFalse => cases hE3
            rename_i hsz
            obtain ⟨s, hs⟩ : ∃ s, s = rdOf ByteArray.empty d (j : Int) := ⟨_, rfl⟩
            have hs' : s = rdS d (j : Int) := hs
            rw [← hs'] at hp hp1 hm2 hE3 hsz
            rw [← hs] at q0
            have HSN : Aside0 (prevO d (j + 1) = some s) := ⟨by rw [hs]; rfl⟩
            have HSS := Aside0.mk hs
            clear hs hs'
            have HP := Aside0.mk hp
            have HM1 := Aside0.mk hm1
            have HM2 := Aside0.mk hm2
            have HE3 := Aside0.mk hE3
            clear hp hm1 hm2 hE3
            have mx : d.length ≤ 9223372036854775807 := C1.out.2.1
            have k1 : m1.size + m2.size ≤ 9223372036854775807 := by omega
            have k2 : m1.size + m2.size + (s.size - p.toNat) ≤ 9223372036854775807 := by omega
            have k1n : ¬ (9223372036854775807 < m1.size + m2.size) := by omega
            have k2n : ¬ (9223372036854775807 < m1.size + m2.size + (s.size - p.toNat)) := by omega
            have k3 : IntKind.i64.wrap ((s.size : Int) - p) = (s.size : Int) - p := IntWalk.i64_in _ (by omega)
            have qW1 : W1.cell? (ad.add j) = some (.string s) := by
              obtain ⟨_, hq, q9⟩ := Kd.at_string C1.out (j : Int) (by omega) (by omega)
              cases hq
              simp only [Int.toNat_natCast] at q9
              rw [q9, HSS.out]
            by_cases j0 : j = 0
            · have hp := HP.out
              rw [j0] at hp
              simp only [prevO, comO, Option.some.injEq] at hp
              have HPZ := Aside0.mk hp
              have tz : decide (0 < j) = false := decide_eq_false (by omega)
              have tz' : decide ((0 : Int) < (j : Int)) = false := decide_eq_false (by omega)
              clear HP hp
              have HJ0 := Aside0.mk j0
              clear j0
              go_wp2_with fail
              rw [show Value.int IntKind.i64 0 = Value.int IntKind.i64 p from by rw [HPZ.out]]
              obtain ⟨Wc, hWc⟩ : ∃ Wc, Wc = wr := ⟨_, rfl⟩
              have OC : Aside0 (OutRow Wc W1.heap.size (.slice A b.length c) b) := ⟨by rw [hWc]; exact O.out⟩
              have BC : Aside0 (Below W1.heap.size W1 Wc) := ⟨by rw [hWc]; exact B.out⟩
              have qC : Wc.cell? (ad.add j) = some (.string s) := by rw [hWc]; exact q0
              rw [← hWc]
              clear hWc q0 O B tz tz'
              have HC : Aside0 (Below Wc.heap.size Wc Wc.drew) := ⟨(Below.refl _ _).drew⟩
              go_region_held3 (fun w' => w'.cell? (ad.add j) = some (.string s))
                (first | exact (B5.out.cell (World.block_lt_of_cell? _ _ qW1)).trans qW1 | exact (HC.out.cell (World.block_lt_of_cell? _ _ qC)).trans qC | go_keep)
                (first | (((with_reducible refine (lookoutref10_number.calls k p m1 _ HM1.out).mono ?_); rintro e' W ⟨rfl, hb⟩; replace HC := Aside0.mk (HC.out.trans (hb.mono HC.out.size)); clear hb)) | (((with_reducible refine (lookoutref10_number.calls k ((s.size : Int) - p) m2 _ HM2.out).mono ?_); rintro e' W ⟨rfl, hb⟩; replace HC := Aside0.mk (HC.out.trans (hb.mono HC.out.size)); clear hb)) | ((refine step_out W1.heap.size ?_ (.tmp 54) (.tmp 72) 48 9 ?_ Try.underlying48 Try.underlying9 infoB (.slice A b.length c) b (m1 ++ m2 ++ s.extract p.toNat s.size) ?_ ?_ (OC.out.below HC.out) (Nat.le_trans BC.out.size HC.out.size) (by simp only [ByteArray.size_append, ByteArray.size_extract]; omega) ?_; rotate_left; (next => rfl); (next => rfl); (next => rfl); rotate_left; (next => rfl); intro v5 w5 ho5 hg5; have B5 := Aside0.mk ((BC.out.trans (HC.out.mono BC.out.size)).grown hg5 (Nat.le_trans BC.out.size HC.out.size) OC.out.base))) | fail)
              all_goals
                obtain ⟨A5, c5, rfl⟩ := ho5.slice
                have O5 := Aside0.mk ho5
                clear ho5 hg5
                go_wp2
                go_roundw
                case rel => exact ⟨j + 1, A5, c5, _, by omega, by go_num, rfl, ⟨by rw [HSN.out]; exact HE3.out⟩, O5, B5⟩
                case measure => simp [intOf]; omega
            · obtain ⟨j', hj'⟩ : ∃ j', j = j' + 1 := ⟨j - 1, by omega⟩
              have hp := HP.out
              rw [hj'] at hp
              simp only [prevO, comO] at hp
              obtain ⟨_, hq, q1⟩ := Kd.at_string (Kd.C_below C1.out B.out) (j' : Int) (by omega) (by omega)
              cases hq
              simp only [Int.toNat_natCast] at q1
              generalize rdOf ByteArray.empty d (j' : Int) = z at hp q1
              have HPN := Aside0.mk hp
              have e1 : j' = j - 1 := by omega
              rw [e1] at q1
              have tz : decide (0 < j) = true := decide_eq_true (by omega)
              have tz' : decide ((0 : Int) < (j : Int)) = true := decide_eq_true (by omega)
              have i1 : (1 : Int) ≤ (j : Int) := by omega
              have i2 : (0 : Int) ≤ (j : Int) - 1 := by omega
              have i3 : ((j : Int) - 1).toNat = j - 1 := by omega
              have i4 : IntKind.i64.wrap ((j : Int) - 1) = (j : Int) - 1 := IntWalk.i64_in _ (by omega)
              have i5 : (j : Int) - 1 < (d.length : Int) := by omega
              clear HP hp e1 hj' j0
              go_wp2_with fail
              go_quiet ((go_at_call 42; exact Calls.quiet_of ((lookoutref10_common.calls k z s p _ HPN.out).mono (fun _ _ hh => ⟨hh.1, hh.2.out⟩))))
              go_wp2_with fail
              obtain ⟨Wc, hWc⟩ : ∃ Wc, Wc = wr.drewN nq := ⟨_, rfl⟩
              have OC : Aside0 (OutRow Wc W1.heap.size (.slice A b.length c) b) := ⟨by rw [hWc]; exact O.out.below (pw_below_drewN (Below.refl _ _) nq)⟩
              have BC : Aside0 (Below W1.heap.size W1 Wc) := ⟨by rw [hWc]; exact pw_below_drewN B.out nq⟩
              have qC : Wc.cell? (ad.add j) = some (.string s) := by rw [hWc]; exact q0
              rw [← hWc]
              clear hWc q0 q1 O B tz tz' i1 i2 i3 i4 i5
              have HC : Aside0 (Below Wc.heap.size Wc Wc.drew) := ⟨(Below.refl _ _).drew⟩
              go_region_held3 (fun w' => w'.cell? (ad.add j) = some (.string s))
                (first | exact (B5.out.cell (World.block_lt_of_cell? _ _ qW1)).trans qW1 | exact (HC.out.cell (World.block_lt_of_cell? _ _ qC)).trans qC | go_keep)
                (first | (((with_reducible refine (lookoutref10_number.calls k p m1 _ HM1.out).mono ?_); rintro e' W ⟨rfl, hb⟩; replace HC := Aside0.mk (HC.out.trans (hb.mono HC.out.size)); clear hb)) | (((with_reducible refine (lookoutref10_number.calls k ((s.size : Int) - p) m2 _ HM2.out).mono ?_); rintro e' W ⟨rfl, hb⟩; replace HC := Aside0.mk (HC.out.trans (hb.mono HC.out.size)); clear hb)) | ((refine step_out W1.heap.size ?_ (.tmp 54) (.tmp 72) 48 9 ?_ Try.underlying48 Try.underlying9 infoB (.slice A b.length c) b (m1 ++ m2 ++ s.extract p.toNat s.size) ?_ ?_ (OC.out.below HC.out) (Nat.le_trans BC.out.size HC.out.size) (by simp only [ByteArray.size_append, ByteArray.size_extract]; omega) ?_; rotate_left; (next => rfl); (next => rfl); (next => rfl); rotate_left; (next => rfl); intro v5 w5 ho5 hg5; have B5 := Aside0.mk ((BC.out.trans (HC.out.mono BC.out.size)).grown hg5 (Nat.le_trans BC.out.size HC.out.size) OC.out.base))) | fail)
              all_goals
                obtain ⟨A5, c5, rfl⟩ := ho5.slice
                have O5 := Aside0.mk ho5
                clear ho5 hg5
                go_wp2
                go_roundw
                case rel => exact ⟨j + 1, A5, c5, _, by omega, by go_num, rfl, ⟨by rw [HSN.out]; exact HE3.out⟩, O5, B5⟩
                case measure => simp [intOf]; omega
          · have tj : decide (j < d.length) = false := decide_eq_false cj
            obtain rfl : j = d.length := by omega
            have hE := HE.out
            clear HE
            rw [List.drop_length, rdG] at hE
            cases hE
            go_wp2
            go_loopw [6, 9] (fun v6 v9 ws => ∃ (i : Nat) (A : Option Addr) (c : Nat) (b : List Int), i ≤ l0.length ∧ v9 = .int .i64 i ∧ v6 = .slice A b.length c ∧ Aside0 (rrG k d (runL (l0.drop i)) b = some b3) ∧ Aside0 (OutRow ws W1.heap.size (.slice A b.length c) b) ∧ Aside0 (Below W1.heap.size W1 ws))
              (fun _ v9 _ => l0.length - (intOf v9).toNat)
            case atStart => exact ⟨0, _, _, _, Nat.zero_le _, rfl, rfl, by rw [List.drop_zero]; exact HB3, O, B⟩
            case round =>
              obtain ⟨i, A, c, b, hi, rfl, rfl, HE, O, B⟩ := hrel
              clear HB3
              by_cases ci : i < l0.length
              · have ti : decide (i < l0.length) = true := decide_eq_true ci
                obtain ⟨ad, rfl, q0⟩ := Kd.at_string (Kd.C_below HR0.out (B1.out.trans (B.out.mono B1.out.size))) (i : Int) (by omega) (by omega)
                simp only [Int.toNat_natCast] at q0
                have hE := HE.out
                clear HE
                rw [drop_rd ci, runL_cons, rrG] at hE
                obtain ⟨s, hs⟩ : ∃ s, s = rdOf ByteArray.empty l0 (i : Int) := ⟨_, rfl⟩
                have hs' : s = rdS l0 (i : Int) := hs
                rw [← hs'] at hE
                rw [← hs] at q0
                clear hs hs'
                have hle := eqN_le s (l0.drop (i + 1))
                rw [List.length_drop] at hle
                dsimp only at hE
                have HE := Aside0.mk hE
                clear hE
                have mx : l0.length ≤ 9223372036854775807 := hm0
                go_wp2
                go_loopw [10] (fun v10 ws => ∃ (n m : Nat), 1 ≤ n ∧ i + n ≤ l0.length ∧ v10 = .int .i64 n ∧ eqN s (l0.drop (i + n)) + n = eqN s (l0.drop (i + 1)) + 1 ∧ ws = wr.drewN m) (fun v10 _ => l0.length - (intOf v10).toNat)
                case atStart => exact ⟨1, 0, Nat.le_refl _, by omega, by go_num, rfl, rfl⟩
                case round =>
                  obtain ⟨n, m, h1, h2, rfl, heq, rfl⟩ := hrel
                  have g1 : IntKind.i64.wrap ((i : Int) + (n : Int)) = (i : Int) + (n : Int) := IntWalk.i64_in _ (by omega)
                  have g2 : (0 : Int) ≤ (i : Int) + (n : Int) := by omega
                  have g3 : ((i : Int) + (n : Int)).toNat = i + n := by omega
                  by_cases cn : i + n < l0.length
                  · have tn : decide (i + n < l0.length) = true := decide_eq_true cn
                    have tn' : decide ((i : Int) + (n : Int) < (l0.length : Int)) = true := decide_eq_true (by omega)
                    obtain ⟨_, hq, q2⟩ := Kd.at_string (Kd.C_below HR0.out (B1.out.trans (B.out.mono B1.out.size))) ((i + n : Nat) : Int) (by omega) (by omega)
                    cases hq
                    simp only [Int.toNat_natCast] at q2
                    rw [drop_rd cn, eqN] at heq
                    obtain ⟨z, hz⟩ : ∃ z, z = rdOf ByteArray.empty l0 ((i + n : Nat) : Int) := ⟨_, rfl⟩
                    have hz' : z = rdS l0 ((i + n : Nat) : Int) := hz
                    rw [← hz'] at heq
                    rw [← hz] at q2
                    clear hz hz'
                    by_cases cz : z.toList = s.toList
                    · rw [if_pos cz] at heq
                      have tx : (z.toList == s.toList) = true := beq_iff_eq.mpr cz
                      have tx2 : decide (z.toList = s.toList) = true := decide_eq_true cz
                      go_wp2
                      go_quiet (fail)
                      go_wp2
                      go_roundw
                      case rel => exact ⟨n + 1, m + nq, by omega, by omega, by go_num, by rw [show i + (n + 1) = i + n + 1 from rfl]; omega, by simp [World.drewN, Nat.add_assoc]⟩
                      case measure => simp [intOf]; omega
                    · rw [if_neg cz] at heq
                      have tx : (z.toList == s.toList) = false := beq_eq_false_iff_ne.mpr cz
                      have tx2 : decide (z.toList = s.toList) = false := decide_eq_false cz
                      go_wp2
                      go_quiet (fail)
                      go_wp2_with fail
                      have hn : n = eqN s (l0.drop (i + 1)) + 1 := by omega
                      obtain ⟨Wc, hWc⟩ : ∃ Wc, Wc = wr.drewN (m + nq) := ⟨_, rfl⟩
                      have OC : Aside0 (OutRow Wc W1.heap.size (.slice A b.length c) b) := ⟨by rw [hWc]; exact O.out.below (pw_below_drewN (Below.refl _ _) (m + nq))⟩
                      have BC : Aside0 (Below W1.heap.size W1 Wc) := ⟨by rw [hWc]; exact pw_below_drewN B.out (m + nq)⟩
                      rw [← hWc]
                      have hE := HE.out
                      clear HE
                      rw [← hn] at hE
                      obtain ⟨ix, hix, hE1⟩ := Option.bind_eq_some_iff.1 hE
                      clear hE
                      obtain ⟨m1, hm1, hE2⟩ := Option.bind_eq_some_iff.1 hE1
                      clear hE1
                      obtain ⟨m2, hm2, hE3⟩ := Option.bind_eq_some_iff.1 hE2
                      clear hE2
                      split at hE3
                      case isFalse => cases hE3
                      rename_i hsz
                      have HI := Aside0.mk hix
                      have HM1 := Aside0.mk hm1
                      have HM2 := Aside0.mk hm2
                      have HN := Aside0.mk hn
                      have HE3 := Aside0.mk hE3
                      have k1 : m1.size + m2.size ≤ 9223372036854775807 := by omega
                      have k2 : b.length + (m1.size + m2.size) ≤ 140737488355328 := hsz
                      have qC : Wc.cell? (ad.add i) = some (.string s) := by rw [hWc]; exact q0
                      clear hix hm1 hm2 hE3 hWc q0 hn heq O B hsz g1 g2 g3
                      refine (lookoutref10_index.calls k A1 c1 d s ix Wc (Kd.C_below C1.out BC.out) L1.out HI.out).mono ?_
                      rintro e X1 ⟨rfl, ⟨m3, rfl⟩⟩
                      clear HI
                      go_wp2_with fail
                      refine (lookoutref10_number.calls k ix m1 _ HM1.out).mono ?_
                      rintro e X2 ⟨rfl, hx2⟩
                      have B2 := Aside0.mk ((pw_below_drewN (Below.refl Wc.heap.size Wc) m3).trans hx2)
                      clear hx2 HM1 qC
                      have g4 : IntKind.i64.wrap ((n : Int) - 1) = (n : Int) - 1 := IntWalk.i64_in _ (by omega)
                      go_wp2_with fail
                      refine (lookoutref10_number.calls k ((n : Int) - 1) m2 _ HM2.out).mono ?_
                      rintro e X3 ⟨rfl, hx3⟩
                      have B3 := Aside0.mk (B2.out.trans (hx3.mono B2.out.size))
                      clear hx3 HM2 B2 g4
                      go_wp2_with (at_builtin; refine wpList_out W1.heap.size rfl (.tmp 99) (.tmp 110) 48 9 rfl Try.underlying48 Try.underlying9 infoB (.slice A b.length c) b (m1 ++ m2) rfl rfl (OC.out.below B3.out) (Nat.le_trans BC.out.size B3.out.size) (by rw [ByteArray.size_append]; exact k2) ?_; intro v5 w5 ho5 hg5; have B5 := Aside0.mk ((BC.out.trans (B3.out.mono BC.out.size)).grown hg5 (Nat.le_trans BC.out.size B3.out.size) OC.out.base); have O5 := Aside0.mk ho5; clear ho5 hg5)
                      obtain ⟨A5, c5, rfl⟩ := O5.out.slice
                      have g5 : (i : Int) + (n : Int) = ((i + n : Nat) : Int) := by omega
                      go_roundw
                      case rel => exact ⟨i + n, A5, c5, _, h2, by rw [g5], rfl, ⟨by have h_ := HE3.out; rw [List.drop_drop, show i + 1 + eqN s (l0.drop (i + 1)) = i + n by have := HN.out; omega] at h_; exact h_⟩, O5, B5⟩
                      case measure => simp [intOf]; omega
                  · have tn : decide (i + n < l0.length) = false := decide_eq_false cn
                    have tn' : decide ((i : Int) + (n : Int) < (l0.length : Int)) = false := decide_eq_false (by omega)
                    rw [List.drop_eq_nil_of_le (by omega), eqN] at heq
                    go_wp2
                    go_quiet (fail)
                    go_wp2_with fail
                    have hn : n = eqN s (l0.drop (i + 1)) + 1 := by omega
                    obtain ⟨Wc, hWc⟩ : ∃ Wc, Wc = wr.drewN (m + nq) := ⟨_, rfl⟩
                    have OC : Aside0 (OutRow Wc W1.heap.size (.slice A b.length c) b) := ⟨by rw [hWc]; exact O.out.below (pw_below_drewN (Below.refl _ _) (m + nq))⟩
                    have BC : Aside0 (Below W1.heap.size W1 Wc) := ⟨by rw [hWc]; exact pw_below_drewN B.out (m + nq)⟩
                    rw [← hWc]
                    have hE := HE.out
                    clear HE
                    rw [← hn] at hE
                    obtain ⟨ix, hix, hE1⟩ := Option.bind_eq_some_iff.1 hE
                    clear hE
                    obtain ⟨m1, hm1, hE2⟩ := Option.bind_eq_some_iff.1 hE1
                    clear hE1
                    obtain ⟨m2, hm2, hE3⟩ := Option.bind_eq_some_iff.1 hE2
                    clear hE2
                    split at hE3
                    case isFalse => cases hE3
                    rename_i hsz
                    have HI := Aside0.mk hix
                    have HM1 := Aside0.mk hm1
                    have HM2 := Aside0.mk hm2
                    have HN := Aside0.mk hn
                    have HE3 := Aside0.mk hE3
                    have k1 : m1.size + m2.size ≤ 9223372036854775807 := by omega
                    have k2 : b.length + (m1.size + m2.size) ≤ 140737488355328 := hsz
                    have qC : Wc.cell? (ad.add i) = some (.string s) := by rw [hWc]; exact q0
                    clear hix hm1 hm2 hE3 hWc q0 hn heq O B hsz g1 g2 g3
                    refine (lookoutref10_index.calls k A1 c1 d s ix Wc (Kd.C_below C1.out BC.out) L1.out HI.out).mono ?_
                    rintro e X1 ⟨rfl, ⟨m3, rfl⟩⟩
                    clear HI
                    go_wp2_with fail
                    refine (lookoutref10_number.calls k ix m1 _ HM1.out).mono ?_
                    rintro e X2 ⟨rfl, hx2⟩
                    have B2 := Aside0.mk ((pw_below_drewN (Below.refl Wc.heap.size Wc) m3).trans hx2)
                    clear hx2 HM1 qC
                    have g4 : IntKind.i64.wrap ((n : Int) - 1) = (n : Int) - 1 := IntWalk.i64_in _ (by omega)
                    go_wp2_with fail
                    refine (lookoutref10_number.calls k ((n : Int) - 1) m2 _ HM2.out).mono ?_
                    rintro e X3 ⟨rfl, hx3⟩
                    have B3 := Aside0.mk (B2.out.trans (hx3.mono B2.out.size))
                    clear hx3 HM2 B2 g4
                    go_wp2_with (at_builtin; refine wpList_out W1.heap.size rfl (.tmp 99) (.tmp 110) 48 9 rfl Try.underlying48 Try.underlying9 infoB (.slice A b.length c) b (m1 ++ m2) rfl rfl (OC.out.below B3.out) (Nat.le_trans BC.out.size B3.out.size) (by rw [ByteArray.size_append]; exact k2) ?_; intro v5 w5 ho5 hg5; have B5 := Aside0.mk ((BC.out.trans (B3.out.mono BC.out.size)).grown hg5 (Nat.le_trans BC.out.size B3.out.size) OC.out.base); have O5 := Aside0.mk ho5; clear ho5 hg5)
                    obtain ⟨A5, c5, rfl⟩ := O5.out.slice
                    have g5 : (i : Int) + (n : Int) = ((i + n : Nat) : Int) := by omega
                    go_roundw
                    case rel => exact ⟨i + n, A5, c5, _, h2, by rw [g5], rfl, ⟨by have h_ := HE3.out; rw [List.drop_drop, show i + 1 + eqN s (l0.drop (i + 1)) = i + n by have := HN.out; omega] at h_; exact h_⟩, O5, B5⟩
                    case measure => simp [intOf]; omega
              · have ti : decide (i < l0.length) = false := decide_eq_false ci
                obtain rfl : i = l0.length := by omega
                have hE := HE.out
                clear HE
                rw [List.drop_length, runL_nil, rrG] at hE
                cases hE
                have hcon := Kd.C_string (P := Try.prog) (dst := 9) (c := c) Try.underlying48 Try.underlying5 Try.underlying9 O.out.reads.2
                have h2 := H2.out
                have BF := Aside0.mk (B1.out.trans (B.out.mono B1.out.size))
                clear H2 O
                by_cases cb : (b3.length : Int) > 1048576
                · rw [if_pos cb] at h2
                  cases h2
                  have tb : decide ((1048576 : Int) < (b3.length : Int)) = true := decide_eq_true cb
                  have tb2 : decide (1048576 < b3.length) = true := decide_eq_true (by omega)
                  go_wp2
                  go_ret2
                  exact ⟨rfl, BF.out⟩
                · rw [if_neg cb] at h2
                  cases h2
                  have tb : decide ((1048576 : Int) < (b3.length : Int)) = false := decide_eq_false cb
                  have tb2 : decide (1048576 < b3.length) = false := decide_eq_false (by omega)
                  go_wp2
                  go_ret2
                  exact ⟨rfl, BF.out⟩
end Go.Proofs.Ytfklecicddpcjaa.Hand
end
