/- The contract of slices.ContainsFunc at one function that the code hands it. No further condition. -/
import Derived.Test.YtdmdhpnlalekfaaProg
import Derived.Test.YtdmdhpnlalekfaaWMore
import Derived.Test.YtdmdhpnlalekfaaAx1
import Derived.Test.YtdmdhpnlalekfaaWNEv
import Derived.Test.YtdmdhpnlalekfaaHGreat
import Derived.Test.YtdmdhpnlalekfaaHEnc
import Derived.WalkKit
import Derived.Deep.LoopGhost
import Derived.Deep.QuietTactic
import Derived.BigQuiet
namespace Go.Proofs.Ytdmdhpnlalekfaa.Hand
open Go.RowKit Go.Proofs.YtdmdhpnlalekfaaW.PrintWords Go.Proofs.YtdmdhpnlalekfaaW.PrintLast Go.Proofs.YtdmdhpnlalekfaaW.PrintMore Go.Proofs.Ytdmdhpnlalekfaa.A
set_option linter.unusedVariables false
namespace contains_invalid
def ckFrom : Int → List Int → Int
  | _, [] => 0
  | q, x :: r => if x < 0 ∨ 1152921504606846976 < x then 2 else if x ≤ q then 9 else ckFrom x r
def CK (l : List Int) : Int := ckFrom (-1) l
def prevOf (l : List Int) (i : Nat) : Int := if i = 0 then -1 else rd l ((i : Int) - 1)
theorem prevOf_succ (l : List Int) (i : Nat) : prevOf l (i + 1) = rd l i := by unfold prevOf; rw [if_neg (by omega)]; congr 1; omega
theorem ck_l0 (l : List Int) (hl : l.length ≤ 17592186043904) : ∀ (d i : Nat), i + d = l.length → Ev (fun k => postings_Check.l0 k l l (l.length : Int) (i : Int)) (ckFrom (prevOf l i) (l.drop i)) := by
  intro d
  induction d with
  | zero => intro i h; rw [List.drop_eq_nil_of_le (by omega), ckFrom]; exact Ev.step (fun k => by rw [postings_Check.l0, if_neg (by omega)]) (Ev.now _)
  | succ d ih =>
    intro i h
    have hi : i < l.length := by omega
    have hw : wrap64 ((i : Int) + 1) = ((i + 1 : Nat) : Int) := by unfold wrap64; omega
    rw [drop_rd' hi, ckFrom]
    have hj : ∀ c, c = decide (rd l i < 0 ∨ 1152921504606846976 < rd l i) → Ev (fun k => postings_Check.j1 k l i (rd l i) l l.length i c) (if rd l i < 0 ∨ 1152921504606846976 < rd l i then 2 else if rd l i ≤ prevOf l i then 9 else ckFrom (rd l i) (l.drop (i + 1))) := by
      rintro c rfl
      by_cases hc : rd l i < 0 ∨ 1152921504606846976 < rd l i
      · rw [if_pos hc]
        exact Ev.step (fun k => by rw [postings_Check.j1, if_pos (decide_eq_true hc)]) (Ev.now _)
      · rw [if_neg hc]
        by_cases h0 : i = 0
        · subst h0
          have hp : prevOf l 0 = -1 := rfl
          rw [if_neg (by rw [hp]; omega)]
          have hs := ih (0 + 1) (by omega)
          rw [prevOf_succ] at hs
          exact Ev.step (fun k => by rw [postings_Check.j1, if_neg (by simpa using hc), if_neg (by omega), hw]) hs
        · have hv : wrap64 ((i : Int) - 1) = (i : Int) - 1 := by unfold wrap64; omega
          have hp : prevOf l i = rd l ((i : Int) - 1) := if_neg h0
          by_cases hle : rd l i ≤ rd l ((i : Int) - 1)
          · rw [hp, if_pos hle]
            exact Ev.step (fun k => by rw [postings_Check.j1, if_neg (by simpa using hc), if_pos (by omega), hv, if_pos (by omega), if_pos (by omega), if_pos hle]) (Ev.now _)
          · rw [hp, if_neg hle]
            have hs := ih (i + 1) (by omega)
            rw [prevOf_succ] at hs
            exact Ev.step (fun k => by rw [postings_Check.j1, if_neg (by simpa using hc), if_pos (by omega), hv, if_pos (by omega), if_pos (by omega), if_neg hle, hw]) hs
    by_cases h1 : rd l i < 0
    · exact Ev.step (fun k => by rw [postings_Check.l0, if_pos (by omega), if_pos (by omega), if_pos (by omega), if_pos h1]) (hj true (by simp [h1]))
    · exact Ev.step (fun k => by rw [postings_Check.l0, if_pos (by omega), if_pos (by omega), if_pos (by omega), if_neg h1]) (hj _ (by simp [h1]))
theorem check_ev (l : List Int) (hl : l.length ≤ 17592186043904) : Ev (fun k => postings_Check.f k l) (CK l) := ck_l0 l hl l.length 0 (by omega)
def pred : (List Int) → Bool := fun x => !decide (CK x = 0)
theorem closure (A1 : Option Addr) (c1 : Nat) (a0 : List Int) (w : World) (hr : Kd.C (Kd.int .i64) w A1 a0.length a0) (hc : a0.length ≤ c1) (hl : a0.length ≤ 17592186043904) : Calls Try.prog 34 #[.slice A1 a0.length c1] w fun e w' => e = .returned (.bool (pred a0)) ∧ ∃ m, w' = w.drewN m := by
  obtain ⟨k, hk⟩ := (check_ev a0 hl).rounds
  have hcl := postings_Check.calls k A1 c1 a0 (CK a0) w hr hc hk
  by_cases h1 : CK a0 = 0
  · have t1 : (CK a0 != 0) = false := by simp [h1]
    have hp : pred a0 = false := by simp [pred, h1]
    rw [hp]
    go_enter Try.func34, Try.ntmps34
    go_wp2_with fail
    refine hcl.mono ?_
    rintro e w' ⟨rfl, ⟨m, rfl⟩⟩
    go_wp2
    go_ret
    exact ⟨rfl, ⟨_, rfl⟩⟩
  · have t1 : (CK a0 != 0) = true := by simp [h1]
    have hp : pred a0 = true := by simp [pred, h1]
    rw [hp]
    go_enter Try.func34, Try.ntmps34
    go_wp2_with fail
    refine hcl.mono ?_
    rintro e w' ⟨rfl, ⟨m, rfl⟩⟩
    go_wp2
    go_ret
    exact ⟨rfl, ⟨_, rfl⟩⟩
set_option maxHeartbeats 2000000 in
set_option maxRecDepth 100000 in
theorem index (A0 : Option Addr) (c0 : Nat) (l0 : List (List Int)) (w : World) (hr0 : Kd.C (Kd.slice 3 (Kd.int .i64)) w A0 l0.length l0) (hc0 : l0.length ≤ c0) (hall : ∀ y ∈ l0, y.length ≤ 17592186043904) :
    Calls Try.prog 56 #[.slice A0 l0.length c0, .func (.func 34) #[] #[]] w fun e w' => (∃ i : Int, e = .returned (.int .i64 i) ∧ (decide (0 ≤ i) = l0.any pred)) ∧ Drawn0 w w' := by
  have HR0 := Aside0.mk hr0
  have HC0 := Aside0.mk hc0
  have hlen := hr0.2.1
  clear hr0 hc0
  go_enter Try.func56, Try.ntmps56
  go_wp2
  repeat (go_quiet (fail); try go_wp2)
  go_loopw [8, 5] (fun v8 v5 wr => ∃ k : Nat, k ≤ l0.length ∧ v8 = .int .i64 k ∧ Aside0 ((l0.take k).any pred = false) ∧ Drawn0 w wr) (fun v8 _ _ => l0.length - (intOf v8).toNat)
  case atStart => exact ⟨0, Nat.zero_le _, rfl, ⟨by simp⟩, by repeat (first | exact Drawn0.refl _ | apply Drawn0.step)⟩
  case round =>
    obtain ⟨k, hk, rfl, HP, ⟨m1, rfl⟩⟩ := hrel
    by_cases hlt : k < l0.length
    · obtain ⟨x, hx⟩ : ∃ x : Int, x = (k : Int) := ⟨_, rfl⟩
      have p1 : 0 ≤ x := by omega
      have q1 : x < (l0.length : Int) := by omega
      obtain ⟨ad, A1, c1, e1, hcell, hel, hlel⟩ := contains_great.at_ints HR0.out x p1 q1
      cases e1
      subst hx
      clear p1 q1
      simp only [Int.toNat_natCast] at hcell
      have HX : Aside0 (l0.take (k + 1) = l0.take k ++ [l0[k]]) := ⟨by rw [List.take_succ_eq_append_getElem hlt]⟩
      obtain ⟨y, hy⟩ : ∃ y, y = rdOf ([] : List Int) l0 (k : Int) := ⟨_, rfl⟩
      have HY : Aside0 (y = l0[k]) := ⟨by rw [hy]; simp [rdOf, List.getD_eq_getElem?_getD, hlt]⟩
      rw [← hy] at hcell hel hlel
      have HZ := Aside0.mk hy
      clear hy
      by_cases hb : pred y = true
      · have hcl := fun (m : Nat) => closure A1 c1 y (w.drewN m) (Kd.C_drewN hel m) hlel (by rw [HY.out]; exact hall _ (List.getElem_mem _))
        rw [hb] at hcl
        go_wp2_with (go_at_call 34; refine (hcl _).mono ?_; rintro e w' ⟨rfl, ⟨m2, rfl⟩⟩)
        repeat (go_quiet (fail); try go_wp2)
        go_ret
        refine ⟨⟨_, rfl, ?_⟩, by first | exact ⟨⟨_, rfl⟩⟩ | (repeat (first | exact Drawn0.refl _ | apply Drawn0.step))⟩
        have h1 : l0.any pred = true := by
          rw [List.any_eq_true]
          exact ⟨l0[k], List.getElem_mem _, by rw [← HY.out]; exact hb⟩
        rw [h1, decide_eq_true_eq]; omega
      · have hb : pred y = false := by simpa using hb
        have hcl := fun (m : Nat) => closure A1 c1 y (w.drewN m) (Kd.C_drewN hel m) hlel (by rw [HY.out]; exact hall _ (List.getElem_mem _))
        rw [hb] at hcl
        go_wp2_with (go_at_call 34; refine (hcl _).mono ?_; rintro e w' ⟨rfl, ⟨m2, rfl⟩⟩)
        repeat (go_quiet (fail); try go_wp2)
        go_roundw
        case rel => exact ⟨k + 1, by omega, by go_num, ⟨by rw [HX.out, List.any_append, HP.out, ← HY.out]; simp [hb]⟩, by first | exact ⟨⟨_, rfl⟩⟩ | (repeat (first | exact Drawn0.refl _ | apply Drawn0.step))⟩
        case measure => simp [intOf]; omega
    · obtain rfl : k = l0.length := by omega
      go_wp2
      repeat (go_quiet (fail); try go_wp2)
      go_ret
      refine ⟨⟨_, rfl, ?_⟩, by first | exact ⟨⟨_, rfl⟩⟩ | (repeat (first | exact Drawn0.refl _ | apply Drawn0.step))⟩
      have := HP.out
      rw [List.take_length] at this
      rw [this]; rfl
def f (l0 : List (List Int)) : Option Bool := if ∀ y ∈ l0, y.length ≤ 17592186043904 then some (l0.any pred) else none
set_option maxHeartbeats 2000000 in
set_option maxRecDepth 100000 in
theorem calls (A0 : Option Addr) (c0 : Nat) (l0 : List (List Int)) (r : Bool) (w : World) (hr0 : Kd.C (Kd.slice 3 (Kd.int .i64)) w A0 l0.length l0) (hc0 : l0.length ≤ c0) (h : f l0 = some r) :
    Calls Try.prog 33 #[.slice A0 l0.length c0, .func (.func 34) #[] #[]] w fun e w' => e = .returned (.bool r) ∧ Drawn0 w w' := by
  unfold f at h
  split at h
  case isFalse => cases h
  rename_i hall
  simp only [Option.some.injEq] at h
  have H := Aside0.mk h
  clear h
  have hi := index A0 c0 l0 w hr0 hc0 hall
  clear hr0 hc0
  go_enter Try.func33, Try.ntmps33
  go_wp2_with (go_at_call 56; refine hi.mono ?_; rintro e w' ⟨⟨i, rfl, h1⟩, ⟨m2, rfl⟩⟩; have H1 := Aside0.mk h1; clear h1)
  repeat (go_quiet (fail); try go_wp2)
  go_ret
  exact ⟨by rw [← H.out, ← H1.out]; rfl, ⟨⟨_, rfl⟩⟩⟩
end contains_invalid
end Go.Proofs.Ytdmdhpnlalekfaa.Hand
