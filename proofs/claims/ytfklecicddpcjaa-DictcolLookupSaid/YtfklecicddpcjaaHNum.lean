/- The contract of dictcol's reader.number: what the Go code returns for any reader and bound. No further condition. -/
import Derived.Test.YtfklecicddpcjaaAA
import Derived.Test.YtfklecicddpcjaaWMore
import Derived.WalkKit
import Derived.StillTailTactics
import Derived.Deep.QuietTactic
import Derived.Deep.RegionHeld3
import Derived.BigQuiet
namespace Go.Proofs.Ytfklecicddpcjaa.Hand
open Go.RowKit Go.Proofs.YtfklecicddpcjaaW.PrintWords Go.Proofs.YtfklecicddpcjaaW.PrintMore Go.Proofs.Ytfklecicddpcjaa.A
set_option linter.unusedVariables false
set_option linter.unusedSimpArgs false
def numR (R : ByteArray → Option (Int × Int × Int)) (s0 : ByteArray) (s1 : Int) (s2 : Bool) (a1 : Int) : Option (Int × ByteArray × Int × Bool) :=
  if s2 = true then some (0, s0, s1, s2) else (if 0 ≤ s1 then (if s1 ≤ (s0.size : Int) then ((R (s0.extract s1.toNat s0.size)).bind fun p => if p.2.2 = 0 then (if p.1 > a1 then some (0, s0, s1, true) else some (p.1, s0, wrap64 (s1 + p.2.1), s2)) else some (0, s0, s1, true)) else none) else none)
def dictcol_reader_number.f (s0 : ByteArray) (s1 : Int) (s2 : Bool) (a1 : Int) : Option (Int × ByteArray × Int × Bool) := numR varint_Read.f s0 s1 s2 a1
abbrev RDR (W : World) (g : Nat) (s : ByteArray) (i : Int) (e : Bool) : Prop := W.heap[g]? = some (.cells #[.string s, .int .i64 i, .bool e] 75 (0, 0))
def KeepOne (g : Nat) (w w' : World) : Prop := w.heap.size ≤ w'.heap.size ∧ ∀ k, k < w.heap.size → k ≠ g → w'.heap[k]? = w.heap[k]?
theorem KeepOne.set {g : Nat} {a b : World} (h : KeepOne g a b) (i : Nat) (v : Value) : KeepOne g a (b.setCell ⟨g, i, none⟩ v) := ⟨by simpa using h.1, fun k hk hg => (Below.heap_setCell b ⟨g, i, none⟩ v k hg).trans (h.2 k hk hg)⟩
theorem KeepOne.of_below {g : Nat} {a b : World} (h : Below a.heap.size a b) : KeepOne g a b := ⟨h.size, fun k hk _ => h.block k hk⟩
theorem KeepOne.but {g : Nat} {a b : World} (h : KeepOne g a b) : KeepBut a b g none := ⟨h.1, fun k hk hg _ => h.2 k hk hg⟩
set_option maxRecDepth 100000 in
set_option maxHeartbeats 2000000 in
theorem number_calls (R : ByteArray → Option (Int × Int × Int)) (hR : ∀ (s : ByteArray) (r1 r2 r3 : Int) (w : World), R s = some (r1, r2, r3) → Calls Try.prog 84 #[.string s] w fun e w' => e = .returned (.tuple #[.int .i64 r1, .int .i64 r2, .int .i64 r3]) ∧ Below w.heap.size w w') (g : Nat) (s0_0 : ByteArray) (s0_1 : Int) (s0_2 : Bool) (a1 : Int) (r1 : Int) (r2 : ByteArray) (r3 : Int) (r4 : Bool) (w0 w : World) (hI : IsS75 w0 w g s0_0 s0_1 s0_2) (hB : Below w0.heap.size w0 w) (h : numR R s0_0 s0_1 s0_2 a1 = some (r1, r2, r3, r4)) :
    Calls Try.prog 58 #[.pointer (some ⟨g, 0, none⟩), .int .i64 a1] w fun e w' => e = .returned (.int .i64 r1) ∧ IsS75 w0 w' g r2 r3 r4 ∧ Below w0.heap.size w0 w' ∧ KeepBut w w' g none := by
  obtain ⟨hb0, hg0⟩ := hI
  have HG0 := Aside0.mk hg0
  have HB := Aside0.mk (show RDR w g s0_0 s0_1 s0_2 from hb0)
  have HBB := Aside0.mk hB
  clear hb0 hB hg0
  have c0 : w.cell? ⟨g, 0, none⟩ = some (.string s0_0) := (blk_cell HB.out 0).trans rfl
  have c1 : w.cell? ⟨g, 1, none⟩ = some (.int .i64 s0_1) := (blk_cell HB.out 1).trans rfl
  have c2 : w.cell? ⟨g, 2, none⟩ = some (.bool s0_2) := (blk_cell HB.out 2).trans rfl
  have lg := blk_lt HB.out
  unfold numR at h
  by_cases he : s0_2 = true
  · subst he
    rw [if_pos rfl] at h
    cases h
    go_enter Try.func58, Try.ntmps58
    go_wp2
    go_ret
    exact ⟨rfl, ⟨HB.out, HG0.out⟩, HBB.out, (KeepOne.of_below (Below.refl _ _)).but⟩
  · have he : s0_2 = false := by simpa using he
    subst he
    rw [if_neg (by simp)] at h
    split at h
    case isFalse => cases h
    rename_i h0
    split at h
    case isFalse => cases h
    rename_i h1
    obtain ⟨⟨p1, p2, p3⟩, hp, h2⟩ := Option.bind_eq_some_iff.1 h
    clear h
    dsimp only at h2
    have HP := Aside0.mk hp
    have H2 := Aside0.mk h2
    clear hp h2
    go_enter Try.func58, Try.ntmps58
    go_wp2_with fail
    go_region_held3 (fun w' => w'.cell? ⟨g, 0, none⟩ = some (.string s0_0) ∧ w'.cell? ⟨g, 1, none⟩ = some (.int .i64 s0_1))
      (first | go_keep | exact ⟨(hb.cell (World.block_lt_of_cell? _ _ c0)).trans c0, (hb.cell (World.block_lt_of_cell? _ _ c1)).trans c1⟩)
      (((with_reducible refine (hR _ p1 p2 p3 _ HP.out).mono ?_); rintro e' W ⟨rfl, hb⟩))
    have hb' : Below w.heap.size w W := (below_drew1 (Below.refl w.heap.size w)).trans hb
    clear hb c0 c1 c2
    have G := blk_below HB.out hb'
    have c1 : W.cell? ⟨g, 1, none⟩ = some (.int .i64 s0_1) := (blk_cell G 1).trans rfl
    have c2 : W.cell? ⟨g, 2, none⟩ = some (.bool false) := (blk_cell G 2).trans rfl
    have z1 := blk_frozen G 1
    have z2 := blk_frozen G 2
    have HG := Aside0.mk G
    have HW := Aside0.mk hb'
    clear G hb'
    have h2 := H2.out
    clear H2
    have B0 : Below w0.heap.size w0 W := HBB.out.trans (HW.out.mono HBB.out.size)
    have BB := Aside0.mk B0
    clear B0
    by_cases t1 : p3 = 0
    · rw [if_pos t1] at h2
      subst t1
      by_cases t2 : p1 > a1
      · rw [if_pos t2] at h2
        have u2 : decide (a1 < p1) = true := decide_eq_true t2
        cases h2
        go_wp2
        go_ret
        exact ⟨rfl, ⟨blk_put HG.out 2 _ rfl, HG0.out⟩, BB.out.setCell HG0.out _, ((KeepOne.of_below HW.out).set 2 _).but⟩
      · rw [if_neg t2] at h2
        have u2 : decide (a1 < p1) = false := decide_eq_false t2
        cases h2
        go_wp2
        go_ret
        exact ⟨rfl, ⟨blk_put HG.out 1 _ rfl, HG0.out⟩, BB.out.setCell HG0.out _, ((KeepOne.of_below HW.out).set 1 _).but⟩
    · rw [if_neg t1] at h2
      have u1 : (p3 != 0) = true := bne_iff_ne.mpr t1
      cases h2
      go_wp2
      go_ret
      exact ⟨rfl, ⟨blk_put HG.out 2 _ rfl, HG0.out⟩, BB.out.setCell HG0.out _, ((KeepOne.of_below HW.out).set 2 _).but⟩
theorem dictcol_reader_number.calls (g : Nat) (s0_0 : ByteArray) (s0_1 : Int) (s0_2 : Bool) (a1 : Int) (r1 : Int) (r2 : ByteArray) (r3 : Int) (r4 : Bool) (w0 w : World) (hI : IsS75 w0 w g s0_0 s0_1 s0_2) (hB : Below w0.heap.size w0 w) (h : dictcol_reader_number.f s0_0 s0_1 s0_2 a1 = some (r1, r2, r3, r4)) :
    Calls Try.prog 58 #[.pointer (some ⟨g, 0, none⟩), .int .i64 a1] w fun e w' => e = .returned (.int .i64 r1) ∧ IsS75 w0 w' g r2 r3 r4 ∧ Below w0.heap.size w0 w' ∧ KeepBut w w' g none :=
  number_calls varint_Read.f (fun s r1 r2 r3 w h => varint_Read.calls s r1 r2 r3 w h) g s0_0 s0_1 s0_2 a1 r1 r2 r3 r4 w0 w hI hB h
end Go.Proofs.Ytfklecicddpcjaa.Hand
