/- Decoding an encoded column of strings yields the column. No condition beyond those in the statement. -/
import Derived.Test.YtfklecicddpcjaaK6
import Derived.Test.YtfklecicddpcjaaPx36
namespace Go.Proofs.Ytfklecicddpcjaa.Pure
open Go.RowKit Go.Proofs.Ytfklecicddpcjaa.P Go.Proofs.Ytfklecicddpcjaa.A Go.Proofs.Ytfklecicddpcjaa.Hand Go.Proofs.YtfklecicddpcjaaW.PrintWords Go.Proofs.YtfklecicddpcjaaW.PrintLast Go.Proofs.YtfklecicddpcjaaW.PrintMore Go.Proofs.Ytfklecicddpcjaa.DK Go.Proofs.Ytfklecicddpcjaa.VB
theorem enc_size {l : List ByteArray} (h : COL l) (h40 : l.length ≤ 40) : (encBytes l).length ≤ 1048576 := by
  have hd := dic_len l
  have g1 := G_len9 (n := l.length) (by omega)
  have g2 := G_len9 (n := (dic l).length) (by omega)
  have hdb := dictB_len (dic l) [] (small_dic (small_of h.2))
  have hr := runL_len l
  have hrb : ∀ L : List (ByteArray × Int), (∀ p ∈ L, p.1 ∈ dic l ∧ p.1.size ≤ 1000 ∧ 1 ≤ p.2 ∧ p.2 ≤ 2000) → (runB (dic l) L).length ≤ 18 * L.length := by
    intro L
    induction L with
    | nil => intro _; simp [runB]
    | cons p r ih =>
      intro hp
      obtain ⟨h1, h2, h3, h4⟩ := hp p (by simp)
      have := ih (fun x hx => hp x (by simp [hx]))
      have hi := idxN_lt h1
      have g1 := G_len9 (n := idxN (dic l) p.1) (by omega)
      have g2 := G_len9 (n := (p.2 - 1).toNat) (by omega)
      simp only [runB, List.length_append, List.length_cons]
      omega
  have := hrb (runL l) (runs_ok h)
  unfold encBytes
  simp only [List.length_append]
  omega
theorem DictcolRoundTrip : lookoutlaw10_DictcolRoundTrip.Pure := by
  intro l hm hl hw
  refine Ev.rounds ?_
  obtain ⟨t, ht, hgr⟩ := great_ev l hw (by omega)
  unfold lookoutlaw10_DictcolRoundTrip.f
  refine Ev.bind ht ?_
  cases t with
  | true => exact Ev.congr (fun k => if_pos rfl) awake_end
  | false =>
    have h40 := hgr rfl
    refine Ev.congr (fun k => if_neg (by simp)) ?_
    refine Ev.bind (enc_ev l) ?_
    by_cases h : COL l
    · have hE : ENC l = (strOfNums (encBytes l), 0) := by unfold ENC; rw [if_pos h, if_neg (by have := enc_size h h40; omega)]
      rw [hE]
      refine Ev.congr (fun k => if_pos rfl) ?_
      refine Ev.bind (decode_round hE) ?_
      refine Ev.congr (fun k => if_pos rfl) ?_
      refine Ev.bind (same_ev l l (by omega)) ?_
      exact Ev.congr (fun k => if_pos (by simp)) awake_end
    · have hE : ENC l = (⟨#[]⟩, 4) := by unfold ENC; rw [if_neg h]
      have hlong : longAny l = true := by
        cases hb : longAny l with
        | true => rfl
        | false => exact absurd ⟨by omega, hb⟩ h
      rw [hE]
      refine Ev.congr (fun k => by rw [if_neg (by simp), if_pos rfl, if_pos (by rw [toL]), show contains_rt.f l = some (longAny l) from rfl, hlong, Option.bind_some, if_pos rfl]) awake_end
end Go.Proofs.Ytfklecicddpcjaa.Pure
