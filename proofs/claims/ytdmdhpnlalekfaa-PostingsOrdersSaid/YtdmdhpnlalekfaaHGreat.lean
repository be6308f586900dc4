/- The contract of slices.ContainsFunc at one function that the code hands it. No further condition. -/
import Derived.Test.YtdmdhpnlalekfaaProg
import Derived.Test.YtdmdhpnlalekfaaWMore
import Derived.WalkKit
import Derived.Deep.LoopGhost
import Derived.Deep.QuietTactic
import Derived.BigQuiet
namespace Go.Proofs.Ytdmdhpnlalekfaa.Hand
open Go.RowKit Go.Proofs.YtdmdhpnlalekfaaW.PrintWords Go.Proofs.YtdmdhpnlalekfaaW.PrintLast Go.Proofs.YtdmdhpnlalekfaaW.PrintMore
set_option linter.unusedVariables false
namespace contains_great
theorem at_ints {w : World} {A : Option Addr} {n : Nat} {xs : List (List Int)} (h : Kd.C (Kd.slice 3 (Kd.int .i64)) w A n xs) (i : Int) (h0 : 0 ≤ i) (h1 : i < n) :
    ∃ ad A1 c1, A = some ad ∧ w.cell? (ad.add i.toNat) = some (.slice A1 (rdOf ([] : List Int) xs i).length c1) ∧ Kd.C (Kd.int .i64) w A1 (rdOf ([] : List Int) xs i).length (rdOf ([] : List Int) xs i) ∧ (rdOf ([] : List Int) xs i).length ≤ c1 := by
  obtain ⟨ad, c, e, _, ⟨A1, c1, rfl, hl, hC⟩, hcell⟩ := Kd.C_get h ([] : List Int) i h0 h1
  refine ⟨ad, A1, c1, e, ?_, hC, hl⟩
  have := hcell 0 _ rfl
  simpa [Kd.slice, rdOf] using this
theorem _root_.Go.Proofs.YtdmdhpnlalekfaaW.PrintWords.Kd.C.drewN {α : Type} {d : Kd α} {w : World} {A : Option Addr} {n : Nat} {xs : List α} (h : Kd.C d w A n xs) (m : Nat) : Kd.C d (w.drewN m) A n xs := Kd.C_drewN h m
def pred : (List Int) → Bool := fun x => decide (40 < x.length)
theorem closure (A1 : Option Addr) (c1 : Nat) (a0 : List Int) (w : World) (hr : Kd.C (Kd.int .i64) w A1 a0.length a0) (hc : a0.length ≤ c1) : Calls Try.prog 39 #[.slice A1 a0.length c1] w fun e w' => e = .returned (.bool (pred a0)) ∧ ∃ m, w' = w.drewN m := by
  have hm := hr.2.1
  by_cases h1 : 40 < a0.length
  · have t1 : decide ((40 : Int) < (a0.length : Int)) = true := decide_eq_true (by omega)
    have hp : pred a0 = true := decide_eq_true h1
    rw [hp]
    go_enter Try.func39, Try.ntmps39
    go_wp2
    repeat (go_quiet (fail); try go_wp2)
    go_ret
    exact ⟨by rw [← t1]; rfl, ⟨0, rfl⟩⟩
  · have t1 : decide ((40 : Int) < (a0.length : Int)) = false := decide_eq_false (by omega)
    have hp : pred a0 = false := decide_eq_false h1
    rw [hp]
    go_enter Try.func39, Try.ntmps39
    go_wp2
    repeat (go_quiet (fail); try go_wp2)
    go_ret
    exact ⟨by rw [← t1]; rfl, ⟨0, rfl⟩⟩
set_option maxHeartbeats 2000000 in
set_option maxRecDepth 100000 in
theorem index (A0 : Option Addr) (c0 : Nat) (l0 : List (List Int)) (w : World) (hr0 : Kd.C (Kd.slice 3 (Kd.int .i64)) w A0 l0.length l0) (hc0 : l0.length ≤ c0) :
    Calls Try.prog 56 #[.slice A0 l0.length c0, .func (.func 39) #[] #[]] w fun e w' => (∃ i : Int, e = .returned (.int .i64 i) ∧ (decide (0 ≤ i) = l0.any pred)) ∧ Drawn0 w w' := by
  have HR0 := Aside0.mk hr0
  have HC0 := Aside0.mk hc0
  have hlen := hr0.2.1
  clear hr0 hc0
  go_enter Try.func56, Try.ntmps56
  go_wp2
  repeat (go_quiet (fail); try go_wp2)
  go_loopw [8, 5] (fun v8 v5 wr => ∃ k : Nat, k ≤ l0.length ∧ v8 = .int .i64 k ∧ Aside0 ((l0.take k).any pred = false) ∧ Drawn0 w wr) (fun v8 _ _ => l0.length - (intOf v8).toNat)
  case atStart => exact ⟨0, Nat.zero_le _, rfl, ⟨by simp⟩, by repeat (first | exact Drawn0.refl _ | apply Drawn0.step)⟩
  case round =>
    obtain ⟨k, hk, rfl, HP, ⟨m1, rfl⟩⟩ := hrel
    by_cases hlt : k < l0.length
    · obtain ⟨x, hx⟩ : ∃ x : Int, x = (k : Int) := ⟨_, rfl⟩
      have p1 : 0 ≤ x := by omega
      have q1 : x < (l0.length : Int) := by omega
      obtain ⟨ad, A1, c1, e1, hcell, hel, hlel⟩ := at_ints HR0.out x p1 q1
      cases e1
      subst hx
      clear p1 q1
      simp only [Int.toNat_natCast] at hcell
      have HX : Aside0 (l0.take (k + 1) = l0.take k ++ [l0[k]]) := ⟨by rw [List.take_succ_eq_append_getElem hlt]⟩
      obtain ⟨y, hy⟩ : ∃ y, y = rdOf ([] : List Int) l0 (k : Int) := ⟨_, rfl⟩
      have HY : Aside0 (y = l0[k]) := ⟨by rw [hy]; simp [rdOf, List.getD_eq_getElem?_getD, hlt]⟩
      rw [← hy] at hcell hel hlel
      have HZ := Aside0.mk hy
      clear hy
      by_cases hb : pred y = true
      · have hcl := fun (m : Nat) => closure A1 c1 y (w.drewN m) (hel.drewN m) hlel
        rw [hb] at hcl
        go_wp2_with (go_at_call 39; refine (hcl _).mono ?_; rintro e w' ⟨rfl, ⟨m2, rfl⟩⟩)
        repeat (go_quiet (fail); try go_wp2)
        go_ret
        refine ⟨⟨_, rfl, ?_⟩, by first | exact ⟨⟨_, rfl⟩⟩ | (repeat (first | exact Drawn0.refl _ | apply Drawn0.step))⟩
        have h1 : l0.any pred = true := by
          rw [List.any_eq_true]
          exact ⟨l0[k], List.getElem_mem _, by rw [← HY.out]; exact hb⟩
        rw [h1, decide_eq_true_eq]; omega
      · have hb : pred y = false := by simpa using hb
        have hcl := fun (m : Nat) => closure A1 c1 y (w.drewN m) (hel.drewN m) hlel
        rw [hb] at hcl
        go_wp2_with (go_at_call 39; refine (hcl _).mono ?_; rintro e w' ⟨rfl, ⟨m2, rfl⟩⟩)
        repeat (go_quiet (fail); try go_wp2)
        go_roundw
        case rel => exact ⟨k + 1, by omega, by go_num, ⟨by rw [HX.out, List.any_append, HP.out, ← HY.out]; simp [hb]⟩, by first | exact ⟨⟨_, rfl⟩⟩ | (repeat (first | exact Drawn0.refl _ | apply Drawn0.step))⟩
        case measure => simp [intOf]; omega
    · obtain rfl : k = l0.length := by omega
      go_wp2
      repeat (go_quiet (fail); try go_wp2)
      go_ret
      refine ⟨⟨_, rfl, ?_⟩, by first | exact ⟨⟨_, rfl⟩⟩ | (repeat (first | exact Drawn0.refl _ | apply Drawn0.step))⟩
      have := HP.out
      rw [List.take_length] at this
      rw [this]; rfl
def f (l0 : List (List Int)) : Option Bool := some (l0.any pred)
set_option maxHeartbeats 2000000 in
set_option maxRecDepth 100000 in
theorem calls (A0 : Option Addr) (c0 : Nat) (l0 : List (List Int)) (r : Bool) (w : World) (hr0 : Kd.C (Kd.slice 3 (Kd.int .i64)) w A0 l0.length l0) (hc0 : l0.length ≤ c0) (h : f l0 = some r) :
    Calls Try.prog 33 #[.slice A0 l0.length c0, .func (.func 39) #[] #[]] w fun e w' => e = .returned (.bool r) ∧ Drawn0 w w' := by
  simp only [f, Option.some.injEq] at h
  have H := Aside0.mk h
  clear h
  have hi := index A0 c0 l0 w hr0 hc0
  clear hr0 hc0
  go_enter Try.func33, Try.ntmps33
  go_wp2_with (go_at_call 56; refine hi.mono ?_; rintro e w' ⟨⟨i, rfl, h1⟩, ⟨m2, rfl⟩⟩; have H1 := Aside0.mk h1; clear h1)
  repeat (go_quiet (fail); try go_wp2)
  go_ret
  exact ⟨by rw [← H.out, ← H1.out]; rfl, ⟨⟨_, rfl⟩⟩⟩
end contains_great
end Go.Proofs.Ytdmdhpnlalekfaa.Hand
