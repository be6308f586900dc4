/- The contract of dictcol.read: what the Go code returns for any string. No further condition. -/
import Derived.Test.YtfklecicddpcjaaHZ
import Derived.Test.YtfklecicddpcjaaHNum
import Derived.Test.YtfklecicddpcjaaCA
namespace Go.Proofs.Ytfklecicddpcjaa.Hand
open Go.RowKit Go.Proofs.YtfklecicddpcjaaW.PrintWords Go.Proofs.YtfklecicddpcjaaW.PrintMore Go.Proofs.Ytfklecicddpcjaa.A
open Go.Proofs.Ytfklecicddpcjaa.C hiding IsS75
set_option linter.unusedVariables false
set_option linter.unusedSimpArgs false
def readE (k : Nat) (a0 : ByteArray) (d t : List ByteArray) : Option (List ByteArray × List ByteArray × Bool) :=
  (dictcol_Encode.f k t).bind fun e => if e.2 = 0 then (if e.1.toList = a0.toList then some (d, t, true) else some ([], [], false)) else some ([], [], false)
def dictcol_read.f (k : Nat) (a0 : ByteArray) : Option (List ByteArray × List ByteArray × Bool) :=
  if (a0.size : Int) > 1048576 then some ([], [], false) else ((dictcol_reader_number.f a0 0 false 2000).bind fun p => (dictcol_reader_number.f p.2.1 p.2.2.1 p.2.2.2 p.1).bind fun q => (dictcol_reader_dictionary.f k q.2.1 q.2.2.1 q.2.2.2 q.1).bind fun d => (dictcol_reader_strings.f k d.2.1 d.2.2.1 d.2.2.2 p.1 d.1).bind fun t => if t.2.2.2 = true then some ([], [], false) else readE k a0 d.1 t.1)
theorem readE_mono (a0 : ByteArray) (d t : List ByteArray) (k : Nat) : LeO (readE k a0 d t) (readE (k + 1) a0 d t) := LeO.bind (dictcol_Encode.mono _ _) (fun e => LeO.refl _)
theorem dictcol_read.mono : ∀ a0 k, LeO (dictcol_read.f k a0) (dictcol_read.f (k + 1) a0) := by
  intro a0 k
  unfold dictcol_read.f
  split
  · exact LeO.refl _
  · refine LeO.bind (LeO.refl _) (fun p => LeO.bind (LeO.refl _) (fun q => LeO.bind (dictcol_reader_dictionary.mono _ _ _ _ _) (fun d => LeO.bind (dictcol_reader_strings.mono _ _ _ _ _ _) (fun t => ?_))))
    split
    · exact LeO.refl _
    · exact readE_mono _ _ _ _
/-- A row, in spite of a step that writes the reader alone. -/
theorem R_but {α : Type} {d : Kd α} {e base : Nat} {ok : Nat → Prop} {W W' : World} {v : Value} {xs : List α} {g t : Nat} {cells : Array Value} (h : d.R e W base ok v xs) (hb : W.heap[g]? = some (.cells cells t (0, 0))) (ht : ∀ q, q ∈ e :: d.E → q ≠ t) (hk : KeepBut W W' g none) : d.R e W' base ok v xs :=
  Kd.R_mono (Kd.R_keep (Kd.R_types h hb ht) hk (fun k hk => hk.2)) (fun k hk => hk.1)
theorem str_ne {t : Nat} (h : 9 ≠ t) : ∀ q, q ∈ 9 :: Kd.string.E → q ≠ t := by
  intro q hq
  simp [Kd.string, Kd.scalar] at hq
  rw [hq]; exact h
theorem two_put {W : World} {g t : Nat} {a b a' b' : Value} (h : W.heap[g]? = some (.cells #[a, b] t (0, 0))) : ((W.setCell ⟨g, 0, none⟩ a').setCell ⟨g, 1, none⟩ b').heap[g]? = some (.cells #[a', b'] t (0, 0)) := blk_put (blk_put h 0 a' rfl) 1 b' rfl
theorem two_row {W : World} {g base : Nat} {ok : Nat → Prop} {a b a' b' v : Value} {xs : List ByteArray} (h : W.heap[g]? = some (.cells #[a, b] 59 (0, 0))) (hr : Kd.R Kd.string 9 W base ok v xs) : Kd.R Kd.string 9 ((W.setCell ⟨g, 0, none⟩ a').setCell ⟨g, 1, none⟩ b') base ok v xs :=
  Kd.R_set (Kd.R_set hr h (str_ne (by decide)) 0 a') (blk_put h 0 a' rfl) (str_ne (by decide)) 1 b'
set_option maxRecDepth 100000 in
set_option maxHeartbeats 8000000 in
theorem dictcol_read.calls (k : Nat) (a0 : ByteArray) (r1 r2 : List ByteArray) (r3 : Bool) (w : World) (h : dictcol_read.f k a0 = some (r1, r2, r3)) :
    Calls Try.prog 45 #[.string a0] w fun e w' => ∃ v0 v1 : Value, e = .returned (.tuple #[.agg #[v0, v1], .bool r3]) ∧ Kd.R Kd.string 9 w' w.heap.size (fun k_ => some k_ ≠ v1.ownBlock) v0 r1 ∧ Kd.R Kd.string 9 w' w.heap.size (fun k_ => some k_ ≠ v0.ownBlock) v1 r2 ∧ Below w.heap.size w w' := by
  unfold dictcol_read.f at h
  by_cases c1 : (a0.size : Int) > 1048576
  · rw [if_pos c1] at h
    cases h
    have t1 : decide (1048576 < a0.size) = true := decide_eq_true (by omega)
    have t1' : decide ((1048576 : Int) < (a0.size : Int)) = true := decide_eq_true c1
    go_enter Try.func45, Try.ntmps45
    go_wp2
    exact bodyPost_ret (v := .tuple #[.agg #[.slice none 0 0, .slice none 0 0], .bool false]) (by simp [results, Try.results45, go_sem]) rfl ⟨_, _, rfl, Kd.R_nil _ _ _ _ _, Kd.R_nil _ _ _ _ _, (Below.refl _ _).alloc (Nat.le_refl _) _⟩
  · rw [if_neg c1] at h
    have t1 : decide (1048576 < a0.size) = false := decide_eq_false (by omega)
    have t1' : decide ((1048576 : Int) < (a0.size : Int)) = false := decide_eq_false c1
    obtain ⟨⟨p1, p2, p3, p4⟩, hp, h1⟩ := Option.bind_eq_some_iff.1 h
    clear h
    dsimp only at h1
    obtain ⟨⟨q1, q2, q3, q4⟩, hq, h2⟩ := Option.bind_eq_some_iff.1 h1
    clear h1
    dsimp only at h2
    obtain ⟨⟨d1, d2, d3, d4⟩, hd, h3⟩ := Option.bind_eq_some_iff.1 h2
    clear h2
    dsimp only at h3
    obtain ⟨⟨s1, s2, s3, s4⟩, hs, h4⟩ := Option.bind_eq_some_iff.1 h3
    clear h3
    dsimp only at h4
    have HP := Aside0.mk hp
    have HQ := Aside0.mk hq
    have HD := Aside0.mk hd
    have HS := Aside0.mk hs
    have H4 := Aside0.mk h4
    clear hp hq hd hs h4 c1
    obtain ⟨W1, hW1⟩ : ∃ W1, W1 = (w.alloc (.cells #[.slice none 0 0, .slice none 0 0] 59)).alloc (.cells #[.string a0, .int .i64 0, .bool false] 75) := ⟨_, rfl⟩
    obtain ⟨g, hg⟩ : ∃ g, g = w.heap.size + 1 := ⟨_, rfl⟩
    have I1 : Aside0 (IsS75 w W1 g a0 0 false) := ⟨by rw [hW1, hg]; have := World.alloc_heap_new (w.alloc (.cells #[.slice none 0 0, .slice none 0 0] 59)) (.cells #[.string a0, .int .i64 0, .bool false] 75); simpa using this, by omega⟩
    have B1 : Aside0 (Below w.heap.size w W1) := ⟨by rw [hW1]; exact ((Below.refl _ _).alloc (Nat.le_refl _) _).alloc (by simp) _⟩
    have R1 : Aside0 (W1.heap[w.heap.size]? = some (.cells #[.slice none 0 0, .slice none 0 0] 59 (0, 0))) := ⟨by rw [hW1]; exact blk_alloc (World.alloc_heap_new w _) _⟩
    have ng : Aside0 (w.heap.size ≠ g) := ⟨by omega⟩
    go_enter Try.func45, Try.ntmps45
    go_wp2_with fail
    rw [← hW1, ← hg]
    clear hW1 hg
    refine (dictcol_reader_number.calls g a0 0 false 2000 p1 p2 p3 p4 w W1 I1.out B1.out HP.out).mono ?_
    rintro e W2 ⟨rfl, i2, b2, k2⟩
    have I2 := Aside0.mk i2
    have B2 := Aside0.mk b2
    have R2 : Aside0 (W2.heap[w.heap.size]? = some (.cells #[.slice none 0 0, .slice none 0 0] 59 (0, 0))) := ⟨(k2.2 _ (blk_lt R1.out) ng.out (by simp)).trans R1.out⟩
    clear i2 b2 k2 I1 B1 R1 HP
    go_wp2_with fail
    refine (dictcol_reader_number.calls g p2 p3 p4 p1 q1 q2 q3 q4 w W2 I2.out B2.out HQ.out).mono ?_
    rintro e W3 ⟨rfl, i3, b3, k3⟩
    have I3 := Aside0.mk i3
    have B3 := Aside0.mk b3
    have R3 : Aside0 (W3.heap[w.heap.size]? = some (.cells #[.slice none 0 0, .slice none 0 0] 59 (0, 0))) := ⟨(k3.2 _ (blk_lt R2.out) ng.out (by simp)).trans R2.out⟩
    clear i3 b3 k3 I2 B2 R2 HQ
    go_wp2_with fail
    refine (dictcol_reader_dictionary.calls k g q2 q3 q4 q1 d1 d2 d3 d4 w W3 I3.out B3.out HD.out).mono ?_
    rintro e W4 ⟨v4, rfl, hr4, i4, b4, k4⟩
    have I4 := Aside0.mk i4
    have B4 := Aside0.mk b4
    have R4 : Aside0 (W4.heap[w.heap.size]? = some (.cells #[.slice none 0 0, .slice none 0 0] 59 (0, 0))) := ⟨(k4.2 _ (blk_lt R3.out) ng.out (by simp)).trans R3.out⟩
    have V4 := Aside0.mk (Kd.R_lower hr4 B3.out.size)
    clear i4 b4 k4 I3 B3 R3 HD hr4
    obtain ⟨A4, c4, rfl, hc4, hC4⟩ := Kd.R_reads V4.out
    have L4 := Aside0.mk hc4
    clear hc4 hC4
    obtain ⟨W5, hW5⟩ : ∃ W5, W5 = W4.alloc (.cells #[.slice A4 d1.length c4, .slice none 0 0] 59) := ⟨_, rfl⟩
    obtain ⟨cb, hcb⟩ : ∃ cb, cb = W4.heap.size := ⟨_, rfl⟩
    have I5 : Aside0 (IsS75 w W5 g d2 d3 d4) := ⟨by rw [hW5]; exact A.IsS75.alloc I4.out _⟩
    have B5 : Aside0 (Below w.heap.size w W5) := ⟨by rw [hW5]; exact B4.out.alloc B4.out.size _⟩
    have R5 : Aside0 (W5.heap[w.heap.size]? = some (.cells #[.slice none 0 0, .slice none 0 0] 59 (0, 0))) := ⟨by rw [hW5]; exact blk_alloc R4.out _⟩
    have C5 : Aside0 (W5.heap[cb]? = some (.cells #[.slice A4 d1.length c4, .slice none 0 0] 59 (0, 0))) := ⟨by rw [hW5, hcb]; exact World.alloc_heap_new _ _⟩
    have V5 : Aside0 (Kd.R Kd.string 9 W5 w.heap.size (fun k => k < W5.heap.size) (.slice A4 d1.length c4) d1) := ⟨by rw [hW5]; exact Kd.R_mono (Kd.R_bound (Kd.R_alloc V4.out _)) (fun k hk => hk.2.2.1)⟩
    have ncb : Aside0 (cb ≠ g) := ⟨by have h_ := I4.out.1; have := blk_lt h_; omega⟩
    have ncw : Aside0 (cb ≠ w.heap.size) := ⟨by have := blk_lt R4.out; omega⟩
    have lcb : Aside0 (w.heap.size ≤ cb) := ⟨by rw [hcb]; exact B4.out.size⟩
    go_wp2_with fail
    rw [← hW5, ← hcb]
    clear hW5 hcb I4 B4 R4 V4
    refine (dictcol_reader_strings.calls k g d2 d3 d4 p1 A4 c4 d1 s1 s2 s3 s4 w W5 I5.out B5.out (Kd.R_reads' V5.out).2.2 L4.out (far_slice (A.IsS75.own_ne I5.out V5.out (by decide))) HS.out).mono ?_
    rintro e W6 ⟨v6, rfl, hr6, i6, b6, k6⟩
    have I6 := Aside0.mk i6
    have B6 := Aside0.mk b6
    have R6 : Aside0 (W6.heap[w.heap.size]? = some (.cells #[.slice none 0 0, .slice none 0 0] 59 (0, 0))) := ⟨(k6.2 _ (blk_lt R5.out) ng.out (by simp)).trans R5.out⟩
    have C6 : Aside0 (W6.heap[cb]? = some (.cells #[.slice A4 d1.length c4, .slice none 0 0] 59 (0, 0))) := ⟨(k6.2 _ (blk_lt C5.out) ncb.out (by simp)).trans C5.out⟩
    have V6 : Aside0 (Kd.R Kd.string 9 W6 w.heap.size (fun k => k < W5.heap.size) (.slice A4 d1.length c4) d1) := ⟨R_but V5.out I5.out.1 (str_ne (by decide)) k6⟩
    have U6 := Aside0.mk (Kd.R_lower (Kd.R_mono (ok' := fun k => W5.heap.size ≤ k) (Kd.R_bound hr6) (fun k hk => hk.2.1)) B5.out.size)
    clear i6 b6 k6 I5 B5 R5 C5 V5 HS hr6
    obtain ⟨A6, c6, rfl, hc6, hC6⟩ := Kd.R_reads U6.out
    have L6 := Aside0.mk hc6
    clear hc6 hC6
    have x0 : W6.cell? ⟨cb, 0, none⟩ = some (.slice A4 d1.length c4) := (blk_cell C6.out 0).trans rfl
    have x1 : W6.cell? ⟨cb, 1, none⟩ = some (.slice none 0 0) := (blk_cell C6.out 1).trans rfl
    have x2 := blk_frozen C6.out 1
    obtain ⟨W7, hW7⟩ : ∃ W7, W7 = W6.setCell ⟨cb, 1, none⟩ (.slice A6 s1.length c6) := ⟨_, rfl⟩
    have hset : ∀ k, k ≠ cb → W7.heap[k]? = W6.heap[k]? := fun k hk => by rw [hW7]; exact Below.heap_setCell _ _ _ _ hk
    have G7 : Aside0 (W7.heap[g]? = some (.cells #[.string s2, .int .i64 s3, .bool s4] 75 (0, 0))) := ⟨(hset g (Ne.symm ncb.out)).trans I6.out.1⟩
    have B7 : Aside0 (Below w.heap.size w W7) := ⟨by rw [hW7]; exact B6.out.setCell lcb.out _⟩
    have R7 : Aside0 (W7.heap[w.heap.size]? = some (.cells #[.slice none 0 0, .slice none 0 0] 59 (0, 0))) := ⟨(hset _ (Ne.symm ncw.out)).trans R6.out⟩
    have C7 : Aside0 (W7.heap[cb]? = some (.cells #[.slice A4 d1.length c4, .slice A6 s1.length c6] 59 (0, 0))) := ⟨by rw [hW7]; exact blk_put C6.out 1 _ rfl⟩
    have V7 : Aside0 (Kd.R Kd.string 9 W7 w.heap.size (fun k => k < W5.heap.size) (.slice A4 d1.length c4) d1) := ⟨by rw [hW7]; exact Kd.R_set V6.out C6.out (str_ne (by decide)) 1 _⟩
    have U7 : Aside0 (Kd.R Kd.string 9 W7 w.heap.size (fun k => W5.heap.size ≤ k) (.slice A6 s1.length c6) s1) := ⟨by rw [hW7]; exact Kd.R_set U6.out C6.out (str_ne (by decide)) 1 _⟩
    have x3 : (W6.setCell ⟨cb, 1, none⟩ (.slice A6 s1.length c6)).cell? ⟨g, 2, none⟩ = some (.bool s4) := by rw [← hW7]; exact (blk_cell G7.out 2).trans rfl
    clear hset I6 B6 R6 C6 V6 U6
    have h4 := H4.out
    clear H4
    by_cases cs : s4 = true
    · subst cs
      rw [if_pos rfl] at h4
      cases h4
      have y0 : W7.cell? ⟨w.heap.size, 0, none⟩ = some (.slice none 0 0) := (blk_cell R7.out 0).trans rfl
      have y1 : W7.cell? ⟨w.heap.size, 1, none⟩ = some (.slice none 0 0) := (blk_cell R7.out 1).trans rfl
      have y2 := blk_frozen R7.out 0
      have y3 := blk_frozen R7.out 1
      rw [hW7] at y0 y1 y2 y3
      go_wp2
      rw [← hW7]
      have hf := two_put (a' := .slice none 0 0) (b' := .slice none 0 0) R7.out
      have u0 := (blk_cell hf 0).trans (show _ = some (.slice none 0 0) from rfl)
      have u1 := (blk_cell hf 1).trans (show _ = some (.slice none 0 0) from rfl)
      exact bodyPost_ret (v := .tuple #[.agg #[.slice none 0 0, .slice none 0 0], .bool false]) (by simp [results, Try.results45, go_sem, u0, u1]) rfl ⟨_, _, rfl, Kd.R_nil _ _ _ _ _, Kd.R_nil _ _ _ _ _, (B7.out.setCell (Nat.le_refl _) _).setCell (Nat.le_refl _) _⟩
    · have cs : s4 = false := by simpa using cs
      subst cs
      rw [if_neg (by simp)] at h4
      unfold readE at h4
      obtain ⟨⟨e1, e2⟩, he, h5⟩ := Option.bind_eq_some_iff.1 h4
      clear h4
      dsimp only at h5
      have HE := Aside0.mk he
      clear he
      have z1 : (W6.setCell ⟨cb, 1, none⟩ (.slice A6 s1.length c6)).cell? ⟨cb, 1, none⟩ = some (.slice A6 s1.length c6) := by rw [← hW7]; exact (blk_cell C7.out 1).trans rfl
      go_wp2_with fail
      rw [← hW7]
      clear x0 x1 x2 x3 z1 hW7
      refine (dictcol_Encode.calls k A6 c6 s1 e1 e2 W7 (Kd.R_reads' U7.out).2.2 L6.out HE.out).mono ?_
      rintro e W8 ⟨rfl, hb8⟩
      have B8 := Aside0.mk (B7.out.trans (hb8.mono B7.out.size))
      have R8 := Aside0.mk (blk_below R7.out hb8)
      have C8 := Aside0.mk (blk_below C7.out hb8)
      have V8 := Aside0.mk (Kd.R_below V7.out hb8)
      have U8 := Aside0.mk (Kd.R_below U7.out hb8)
      clear hb8 B7 R7 C7 V7 U7 HE G7
      have y0 : W8.cell? ⟨w.heap.size, 0, none⟩ = some (.slice none 0 0) := (blk_cell R8.out 0).trans rfl
      have y1 : W8.cell? ⟨w.heap.size, 1, none⟩ = some (.slice none 0 0) := (blk_cell R8.out 1).trans rfl
      have y2 := blk_frozen R8.out 0
      have y3 := blk_frozen R8.out 1
      have x0 : W8.cell? ⟨cb, 0, none⟩ = some (.slice A4 d1.length c4) := (blk_cell C8.out 0).trans rfl
      have x1 : W8.cell? ⟨cb, 1, none⟩ = some (.slice A6 s1.length c6) := (blk_cell C8.out 1).trans rfl
      by_cases ce : e2 = 0
      · subst ce
        rw [if_pos rfl] at h5
        by_cases ca : e1.toList = a0.toList
        · rw [if_pos ca] at h5
          cases h5
          have t5 : decide (e1.toList = a0.toList) = true := decide_eq_true ca
          have t6 : (e1.toList == a0.toList) = true := beq_iff_eq.mpr ca
          have t7 : (e1.toList != a0.toList) = false := by simp [ca]
          go_wp2
          have hf := two_put (a' := .slice A4 r1.length c4) (b' := .slice A6 r2.length c6) R8.out
          have u0 := (blk_cell hf 0).trans (show _ = some (.slice A4 r1.length c4) from rfl)
          have u1 := (blk_cell hf 1).trans (show _ = some (.slice A6 r2.length c6) from rfl)
          exact bodyPost_ret (v := .tuple #[.agg #[.slice A4 r1.length c4, .slice A6 r2.length c6], .bool true]) (by simp [results, Try.results45, go_sem, u0, u1]) rfl ⟨_, _, rfl, Kd.R_mono (two_row R8.out V8.out) (fun k hk he => by have h_ := U8.out.1 k he.symm; exact absurd hk (Nat.not_lt.2 h_)), Kd.R_mono (two_row R8.out U8.out) (fun k hk he => by have h_ := V8.out.1 k he.symm; exact absurd h_ (Nat.not_lt.2 hk)), (B8.out.setCell (Nat.le_refl _) _).setCell (Nat.le_refl _) _⟩
        · rw [if_neg ca] at h5
          cases h5
          have t5 : decide (e1.toList = a0.toList) = false := decide_eq_false ca
          have t6 : (e1.toList == a0.toList) = false := beq_eq_false_iff_ne.mpr ca
          have t7 : (e1.toList != a0.toList) = true := bne_iff_ne.mpr ca
          go_wp2
          have hf := two_put (a' := .slice none 0 0) (b' := .slice none 0 0) R8.out
          have u0 := (blk_cell hf 0).trans (show _ = some (.slice none 0 0) from rfl)
          have u1 := (blk_cell hf 1).trans (show _ = some (.slice none 0 0) from rfl)
          exact bodyPost_ret (v := .tuple #[.agg #[.slice none 0 0, .slice none 0 0], .bool false]) (by simp [results, Try.results45, go_sem, u0, u1]) rfl ⟨_, _, rfl, Kd.R_nil _ _ _ _ _, Kd.R_nil _ _ _ _ _, (B8.out.setCell (Nat.le_refl _) _).setCell (Nat.le_refl _) _⟩
      · rw [if_neg ce] at h5
        cases h5
        have t4 : (e2 != 0) = true := bne_iff_ne.mpr ce
        go_wp2
        have hf := two_put (a' := .slice none 0 0) (b' := .slice none 0 0) R8.out
        have u0 := (blk_cell hf 0).trans (show _ = some (.slice none 0 0) from rfl)
        have u1 := (blk_cell hf 1).trans (show _ = some (.slice none 0 0) from rfl)
        exact bodyPost_ret (v := .tuple #[.agg #[.slice none 0 0, .slice none 0 0], .bool false]) (by simp [results, Try.results45, go_sem, u0, u1]) rfl ⟨_, _, rfl, Kd.R_nil _ _ _ _ _, Kd.R_nil _ _ _ _ _, (B8.out.setCell (Nat.le_refl _) _).setCell (Nat.le_refl _) _⟩
end Go.Proofs.Ytfklecicddpcjaa.Hand
