/- Printed by a program of this session: functions of the law's Go code as Lean functions, and that the Go code computes them. No condition beyond those in the statements. -/
import Derived.Test.YtdokabaeddaipaaPx0
import Derived.Test.YtdokabaeddaipaaPx3
import Derived.Test.YtdokabaeddaipaaPx5
import Derived.Test.YtdokabaeddaipaaPx6
import Derived.Test.YtdokabaeddaipaaPx7
import Derived.Test.YtdokabaeddaipaaPx8
import Derived.Test.YtdokabaeddaipaaPx11
namespace Go.Proofs.Ytdokabaeddaipaa.P
open Go.RowKit Go.Proofs.YtdokabaeddaipaaW.PrintWords Go.Proofs.YtdokabaeddaipaaW.PrintLast Go.Proofs.YtdokabaeddaipaaW.PrintMore Go.Proofs.Ytdokabaeddaipaa.Hand Go.Proofs.Ytdokabaeddaipaa.A
attribute [local go_sem] max2_int min2_int max_two min_two max_three min_three max_four min_four   -- for this text's walks alone
set_option linter.unusedVariables false
set_option linter.unusedSimpArgs false

/-! ### lookoutlaw16_ZonemapHits: function 7 -/
mutual
def lookoutlaw16_ZonemapHits.j0 : Nat → List (S40) → List (S40) → Bool → Int → Int → Bool → Int → Int → List ByteArray → Option (Bool)
  | 0, _, _, _, _, _, _, _, _, _ => none
  | k + 1, x0, x1, x26, x298000, x298001, x298002, x298003, x298004, x298005 => if x26 = true then ((lookoutlaw16_awake.f k).bind fun t301 => (some t301)) else ((lookoutlaw16_of.f k x0).bind fun bt302 => ((lookoutlaw16_of.f k x1).bind fun bt316 => ((zonemap_Merge.f bt302.1 bt302.2.1 bt302.2.2.1 bt302.2.2.2.1 bt302.2.2.2.2.1 bt302.2.2.2.2.2.1 bt302.2.2.2.2.2.2.1 bt302.2.2.2.2.2.2.2.1 bt302.2.2.2.2.2.2.2.2.1 bt302.2.2.2.2.2.2.2.2.2.1 bt302.2.2.2.2.2.2.2.2.2.2.1 bt302.2.2.2.2.2.2.2.2.2.2.2.1 bt302.2.2.2.2.2.2.2.2.2.2.2.2 bt316.1 bt316.2.1 bt316.2.2.1 bt316.2.2.2.1 bt316.2.2.2.2.1 bt316.2.2.2.2.2.1 bt316.2.2.2.2.2.2.1 bt316.2.2.2.2.2.2.2.1 bt316.2.2.2.2.2.2.2.2.1 bt316.2.2.2.2.2.2.2.2.2.1 bt316.2.2.2.2.2.2.2.2.2.2.1 bt316.2.2.2.2.2.2.2.2.2.2.2.1 bt316.2.2.2.2.2.2.2.2.2.2.2.2).bind fun bt329 => (lookoutlaw16_ZonemapHits.l0 k x0 x0 (x0.length : Int) 0 x298000 x298001 x298002 x298003 x298004 x298005 bt302.1 bt302.2.1 bt302.2.2.1 bt302.2.2.2.1 bt302.2.2.2.2.1 bt302.2.2.2.2.2.1 bt302.2.2.2.2.2.2.1 bt302.2.2.2.2.2.2.2.1 bt302.2.2.2.2.2.2.2.2.1 bt302.2.2.2.2.2.2.2.2.2.1 bt302.2.2.2.2.2.2.2.2.2.2.1 bt302.2.2.2.2.2.2.2.2.2.2.2.1 bt302.2.2.2.2.2.2.2.2.2.2.2.2 bt329.1 bt329.2.1 bt329.2.2.1 bt329.2.2.2.1 bt329.2.2.2.2.1 bt329.2.2.2.2.2.1 bt329.2.2.2.2.2.2.1 bt329.2.2.2.2.2.2.2.1 bt329.2.2.2.2.2.2.2.2.1 bt329.2.2.2.2.2.2.2.2.2.1 bt329.2.2.2.2.2.2.2.2.2.2.1 bt329.2.2.2.2.2.2.2.2.2.2.2.1 bt329.2.2.2.2.2.2.2.2.2.2.2.2))))
def lookoutlaw16_ZonemapHits.l0 : Nat → List (S40) → List (S40) → Int → Int → Int → Int → Bool → Int → Int → List ByteArray → Int → Int → Int → Int → Int → Int → Int → Int → Int → Int → Int → Int → Int → Int → Int → Int → Int → Int → Int → Int → Int → Int → Int → Int → Int → Int → Option (Bool)
  | 0, _, _, _, _, _, _, _, _, _, _, _, _, _, _, _, _, _, _, _, _, _, _, _, _, _, _, _, _, _, _, _, _, _, _, _, _ => none
  | k + 1, x0, x34, x35, x36, x298000, x298001, x298002, x298003, x298004, x298005, x316000, x316001, x316002, x316003, x316004, x316005, x316006, x316007, x316008, x316009, x316010, x316011, x316012, x343000, x343001, x343002, x343003, x343004, x343005, x343006, x343007, x343008, x343009, x343010, x343011, x343012 => if x36 < x35 then (if 0 ≤ x36 then (if x36 < (x34.length : Int) then (lookoutlaw16_ZonemapHits.l1 k x0 x34 x35 x36 ((rd_T40 x34 x36).f2) (((rd_T40 x34 x36).f2).length : Int) 0 x298000 x298001 x298002 x298003 x298004 x298005 x316000 x316001 x316002 x316003 x316004 x316005 x316006 x316007 x316008 x316009 x316010 x316011 x316012 x343000 x343001 x343002 x343003 x343004 x343005 x343006 x343007 x343008 x343009 x343010 x343011 x343012 ((rd_T40 x34 x36).f0) ((rd_T40 x34 x36).f1) ((rd_T40 x34 x36).f2)) else (none)) else (none)) else (if x316000 = (x0.length : Int) then ((lookoutlaw16_awake.f k).bind fun t343 => (some t343)) else (none))
def lookoutlaw16_ZonemapHits.l1 : Nat → List (S40) → List (S40) → Int → Int → List ByteArray → Int → Int → Int → Int → Bool → Int → Int → List ByteArray → Int → Int → Int → Int → Int → Int → Int → Int → Int → Int → Int → Int → Int → Int → Int → Int → Int → Int → Int → Int → Int → Int → Int → Int → Int → Int → Int → Int → List ByteArray → Option (Bool)
  | 0, _, _, _, _, _, _, _, _, _, _, _, _, _, _, _, _, _, _, _, _, _, _, _, _, _, _, _, _, _, _, _, _, _, _, _, _, _, _, _, _, _, _ => none
  | k + 1, x0, x34, x35, x36, x41, x42, x43, x298000, x298001, x298002, x298003, x298004, x298005, x316000, x316001, x316002, x316003, x316004, x316005, x316006, x316007, x316008, x316009, x316010, x316011, x316012, x343000, x343001, x343002, x343003, x343004, x343005, x343006, x343007, x343008, x343009, x343010, x343011, x343012, x346000, x346001, x346002 => if x43 < x42 then (if 0 ≤ x43 then (if x43 < (x41.length : Int) then ((zonemap_Has.f x316000 x316001 x316002 x316003 x316004 x316005 x316006 x316007 x316008 x316009 x316010 x316011 x316012 (rdOf ByteArray.empty x41 x43)).bind fun t347 => (if t347 = true then (lookoutlaw16_ZonemapHits.l1 k x0 x34 x35 x36 x41 x42 (wrap64 (x43 + 1)) x298000 x298001 x298002 x298003 x298004 x298005 x316000 x316001 x316002 x316003 x316004 x316005 x316006 x316007 x316008 x316009 x316010 x316011 x316012 x343000 x343001 x343002 x343003 x343004 x343005 x343006 x343007 x343008 x343009 x343010 x343011 x343012 x346000 x346001 x346002) else (none))) else (none)) else (none)) else ((lookoutlaw16_satisfies.f k x346000 x346001 x346002 x298000 x298001 x298002 x298003 x298004 x298005).bind fun t348 => (if t348 = true then ((zonemap_May.f k x316000 x316001 x316002 x316003 x316004 x316005 x316006 x316007 x316008 x316009 x316010 x316011 x316012 x298000 x298001 x298002 x298003 x298004 x298005).bind fun t349 => (if t349 = true then ((zonemap_May.f k x343000 x343001 x343002 x343003 x343004 x343005 x343006 x343007 x343008 x343009 x343010 x343011 x343012 x298000 x298001 x298002 x298003 x298004 x298005).bind fun t350 => (if t350 = true then (lookoutlaw16_ZonemapHits.l0 k x0 x34 x35 (wrap64 (x36 + 1)) x298000 x298001 x298002 x298003 x298004 x298005 x316000 x316001 x316002 x316003 x316004 x316005 x316006 x316007 x316008 x316009 x316010 x316011 x316012 x343000 x343001 x343002 x343003 x343004 x343005 x343006 x343007 x343008 x343009 x343010 x343011 x343012) else (none))) else (none))) else (lookoutlaw16_ZonemapHits.l0 k x0 x34 x35 (wrap64 (x36 + 1)) x298000 x298001 x298002 x298003 x298004 x298005 x316000 x316001 x316002 x316003 x316004 x316005 x316006 x316007 x316008 x316009 x316010 x316011 x316012 x343000 x343001 x343002 x343003 x343004 x343005 x343006 x343007 x343008 x343009 x343010 x343011 x343012)))
end
def lookoutlaw16_ZonemapHits.f (k : Nat) (l0 : List (S40)) (l1 : List (S40)) (a2_0 : Int) (a2_1 : Int) (a2_2 : Bool) (a2_3 : Int) (a2_4 : Int) (l2_5 : List ByteArray) : Option (Bool) := (lookoutlaw16_fits.f k l0).bind fun t298 => (if t298 = true then ((lookoutlaw16_fits.f k l1).bind fun t299 => (if t299 = true then ((lookoutlaw16_short.f l2_5).bind fun t300 => (lookoutlaw16_ZonemapHits.j0 k l0 l1 (!t300) a2_0 a2_1 a2_2 a2_3 a2_4 l2_5)) else (lookoutlaw16_ZonemapHits.j0 k l0 l1 true a2_0 a2_1 a2_2 a2_3 a2_4 l2_5))) else (lookoutlaw16_ZonemapHits.j0 k l0 l1 true a2_0 a2_1 a2_2 a2_3 a2_4 l2_5))
theorem lookoutlaw16_ZonemapHits.mono_l : ∀ k, (∀ y0 y1 y2 y3 y4 y5 y6 y7 y8, LeO (lookoutlaw16_ZonemapHits.j0 k y0 y1 y2 y3 y4 y5 y6 y7 y8) (lookoutlaw16_ZonemapHits.j0 (k + 1) y0 y1 y2 y3 y4 y5 y6 y7 y8)) ∧ (∀ y0 y1 y2 y3 y4 y5 y6 y7 y8 y9 y10 y11 y12 y13 y14 y15 y16 y17 y18 y19 y20 y21 y22 y23 y24 y25 y26 y27 y28 y29 y30 y31 y32 y33 y34 y35, LeO (lookoutlaw16_ZonemapHits.l0 k y0 y1 y2 y3 y4 y5 y6 y7 y8 y9 y10 y11 y12 y13 y14 y15 y16 y17 y18 y19 y20 y21 y22 y23 y24 y25 y26 y27 y28 y29 y30 y31 y32 y33 y34 y35) (lookoutlaw16_ZonemapHits.l0 (k + 1) y0 y1 y2 y3 y4 y5 y6 y7 y8 y9 y10 y11 y12 y13 y14 y15 y16 y17 y18 y19 y20 y21 y22 y23 y24 y25 y26 y27 y28 y29 y30 y31 y32 y33 y34 y35)) ∧ (∀ y0 y1 y2 y3 y4 y5 y6 y7 y8 y9 y10 y11 y12 y13 y14 y15 y16 y17 y18 y19 y20 y21 y22 y23 y24 y25 y26 y27 y28 y29 y30 y31 y32 y33 y34 y35 y36 y37 y38 y39 y40 y41, LeO (lookoutlaw16_ZonemapHits.l1 k y0 y1 y2 y3 y4 y5 y6 y7 y8 y9 y10 y11 y12 y13 y14 y15 y16 y17 y18 y19 y20 y21 y22 y23 y24 y25 y26 y27 y28 y29 y30 y31 y32 y33 y34 y35 y36 y37 y38 y39 y40 y41) (lookoutlaw16_ZonemapHits.l1 (k + 1) y0 y1 y2 y3 y4 y5 y6 y7 y8 y9 y10 y11 y12 y13 y14 y15 y16 y17 y18 y19 y20 y21 y22 y23 y24 y25 y26 y27 y28 y29 y30 y31 y32 y33 y34 y35 y36 y37 y38 y39 y40 y41))
  | 0 => ⟨fun _ _ _ _ _ _ _ _ _ r h => by simp [lookoutlaw16_ZonemapHits.j0] at h, fun _ _ _ _ _ _ _ _ _ _ _ _ _ _ _ _ _ _ _ _ _ _ _ _ _ _ _ _ _ _ _ _ _ _ _ _ r h => by simp [lookoutlaw16_ZonemapHits.l0] at h, fun _ _ _ _ _ _ _ _ _ _ _ _ _ _ _ _ _ _ _ _ _ _ _ _ _ _ _ _ _ _ _ _ _ _ _ _ _ _ _ _ _ _ r h => by simp [lookoutlaw16_ZonemapHits.l1] at h⟩
  | k + 1 => by
    obtain ⟨ih0, ih1, ih2⟩ := lookoutlaw16_ZonemapHits.mono_l k
    refine ⟨?_, ?_, ?_⟩
    · intro y0 y1 y2 y3 y4 y5 y6 y7 y8
      unfold lookoutlaw16_ZonemapHits.j0
      repeat' first
      | (with_reducible exact ih0 _ _ _ _ _ _ _ _ _)
      | (with_reducible exact ih1 _ _ _ _ _ _ _ _ _ _ _ _ _ _ _ _ _ _ _ _ _ _ _ _ _ _ _ _ _ _ _ _ _ _ _ _)
      | (with_reducible exact ih2 _ _ _ _ _ _ _ _ _ _ _ _ _ _ _ _ _ _ _ _ _ _ _ _ _ _ _ _ _ _ _ _ _ _ _ _ _ _ _ _ _ _)
      | (with_reducible exact lookoutlaw16_awake.mono _)
      | (with_reducible exact lookoutlaw16_fits.mono _ _)
      | (with_reducible exact lookoutlaw16_of.mono _ _)
      | (with_reducible exact lookoutlaw16_satisfies.mono _ _ _ _ _ _ _ _ _ _)
      | (with_reducible exact zonemap_May.mono _ _ _ _ _ _ _ _ _ _ _ _ _ _ _ _ _ _ _ _)
      | (with_reducible exact LeO.refl _)
      | (with_reducible exact LeO.none _)
      | (with_reducible refine LeO.ite ?_ ?_)
      | (with_reducible refine LeO.bind ?_ (fun _ => ?_))
      | exact ih0 _ _ _ _ _ _ _ _ _
      | exact ih1 _ _ _ _ _ _ _ _ _ _ _ _ _ _ _ _ _ _ _ _ _ _ _ _ _ _ _ _ _ _ _ _ _ _ _ _
      | exact ih2 _ _ _ _ _ _ _ _ _ _ _ _ _ _ _ _ _ _ _ _ _ _ _ _ _ _ _ _ _ _ _ _ _ _ _ _ _ _ _ _ _ _
      | exact lookoutlaw16_awake.mono _
      | exact lookoutlaw16_fits.mono _ _
      | exact lookoutlaw16_of.mono _ _
      | exact lookoutlaw16_satisfies.mono _ _ _ _ _ _ _ _ _ _
      | exact zonemap_May.mono _ _ _ _ _ _ _ _ _ _ _ _ _ _ _ _ _ _ _ _
      | exact LeO.none _
      | refine LeO.ite ?_ ?_
      | refine LeO.bind ?_ (fun _ => ?_)
    · intro y0 y1 y2 y3 y4 y5 y6 y7 y8 y9 y10 y11 y12 y13 y14 y15 y16 y17 y18 y19 y20 y21 y22 y23 y24 y25 y26 y27 y28 y29 y30 y31 y32 y33 y34 y35
      unfold lookoutlaw16_ZonemapHits.l0
      repeat' first
      | (with_reducible exact ih0 _ _ _ _ _ _ _ _ _)
      | (with_reducible exact ih1 _ _ _ _ _ _ _ _ _ _ _ _ _ _ _ _ _ _ _ _ _ _ _ _ _ _ _ _ _ _ _ _ _ _ _ _)
      | (with_reducible exact ih2 _ _ _ _ _ _ _ _ _ _ _ _ _ _ _ _ _ _ _ _ _ _ _ _ _ _ _ _ _ _ _ _ _ _ _ _ _ _ _ _ _ _)
      | (with_reducible exact lookoutlaw16_awake.mono _)
      | (with_reducible exact lookoutlaw16_fits.mono _ _)
      | (with_reducible exact lookoutlaw16_of.mono _ _)
      | (with_reducible exact lookoutlaw16_satisfies.mono _ _ _ _ _ _ _ _ _ _)
      | (with_reducible exact zonemap_May.mono _ _ _ _ _ _ _ _ _ _ _ _ _ _ _ _ _ _ _ _)
      | (with_reducible exact LeO.refl _)
      | (with_reducible exact LeO.none _)
      | (with_reducible refine LeO.ite ?_ ?_)
      | (with_reducible refine LeO.bind ?_ (fun _ => ?_))
      | exact ih0 _ _ _ _ _ _ _ _ _
      | exact ih1 _ _ _ _ _ _ _ _ _ _ _ _ _ _ _ _ _ _ _ _ _ _ _ _ _ _ _ _ _ _ _ _ _ _ _ _
      | exact ih2 _ _ _ _ _ _ _ _ _ _ _ _ _ _ _ _ _ _ _ _ _ _ _ _ _ _ _ _ _ _ _ _ _ _ _ _ _ _ _ _ _ _
      | exact lookoutlaw16_awake.mono _
      | exact lookoutlaw16_fits.mono _ _
      | exact lookoutlaw16_of.mono _ _
      | exact lookoutlaw16_satisfies.mono _ _ _ _ _ _ _ _ _ _
      | exact zonemap_May.mono _ _ _ _ _ _ _ _ _ _ _ _ _ _ _ _ _ _ _ _
      | exact LeO.none _
      | refine LeO.ite ?_ ?_
      | refine LeO.bind ?_ (fun _ => ?_)
    · intro y0 y1 y2 y3 y4 y5 y6 y7 y8 y9 y10 y11 y12 y13 y14 y15 y16 y17 y18 y19 y20 y21 y22 y23 y24 y25 y26 y27 y28 y29 y30 y31 y32 y33 y34 y35 y36 y37 y38 y39 y40 y41
      unfold lookoutlaw16_ZonemapHits.l1
      repeat' first
      | (with_reducible exact ih0 _ _ _ _ _ _ _ _ _)
      | (with_reducible exact ih1 _ _ _ _ _ _ _ _ _ _ _ _ _ _ _ _ _ _ _ _ _ _ _ _ _ _ _ _ _ _ _ _ _ _ _ _)
      | (with_reducible exact ih2 _ _ _ _ _ _ _ _ _ _ _ _ _ _ _ _ _ _ _ _ _ _ _ _ _ _ _ _ _ _ _ _ _ _ _ _ _ _ _ _ _ _)
      | (with_reducible exact lookoutlaw16_awake.mono _)
      | (with_reducible exact lookoutlaw16_fits.mono _ _)
      | (with_reducible exact lookoutlaw16_of.mono _ _)
      | (with_reducible exact lookoutlaw16_satisfies.mono _ _ _ _ _ _ _ _ _ _)
      | (with_reducible exact zonemap_May.mono _ _ _ _ _ _ _ _ _ _ _ _ _ _ _ _ _ _ _ _)
      | (with_reducible exact LeO.refl _)
      | (with_reducible exact LeO.none _)
      | (with_reducible refine LeO.ite ?_ ?_)
      | (with_reducible refine LeO.bind ?_ (fun _ => ?_))
      | exact ih0 _ _ _ _ _ _ _ _ _
      | exact ih1 _ _ _ _ _ _ _ _ _ _ _ _ _ _ _ _ _ _ _ _ _ _ _ _ _ _ _ _ _ _ _ _ _ _ _ _
      | exact ih2 _ _ _ _ _ _ _ _ _ _ _ _ _ _ _ _ _ _ _ _ _ _ _ _ _ _ _ _ _ _ _ _ _ _ _ _ _ _ _ _ _ _
      | exact lookoutlaw16_awake.mono _
      | exact lookoutlaw16_fits.mono _ _
      | exact lookoutlaw16_of.mono _ _
      | exact lookoutlaw16_satisfies.mono _ _ _ _ _ _ _ _ _ _
      | exact zonemap_May.mono _ _ _ _ _ _ _ _ _ _ _ _ _ _ _ _ _ _ _ _
      | exact LeO.none _
      | refine LeO.ite ?_ ?_
      | refine LeO.bind ?_ (fun _ => ?_)
theorem lookoutlaw16_ZonemapHits.mono : ∀ a0 a1 a2 a3 a4 a5 a6 a7 k, LeO (lookoutlaw16_ZonemapHits.f k a0 a1 a2 a3 a4 a5 a6 a7) (lookoutlaw16_ZonemapHits.f (k + 1) a0 a1 a2 a3 a4 a5 a6 a7) := by
  intro a0 a1 a2 a3 a4 a5 a6 a7 k
  obtain ⟨ih0, ih1, ih2⟩ := lookoutlaw16_ZonemapHits.mono_l k
  unfold lookoutlaw16_ZonemapHits.f
  repeat' first
      | (with_reducible exact ih0 _ _ _ _ _ _ _ _ _)
      | (with_reducible exact ih1 _ _ _ _ _ _ _ _ _ _ _ _ _ _ _ _ _ _ _ _ _ _ _ _ _ _ _ _ _ _ _ _ _ _ _ _)
      | (with_reducible exact ih2 _ _ _ _ _ _ _ _ _ _ _ _ _ _ _ _ _ _ _ _ _ _ _ _ _ _ _ _ _ _ _ _ _ _ _ _ _ _ _ _ _ _)
      | (with_reducible exact lookoutlaw16_awake.mono _)
      | (with_reducible exact lookoutlaw16_fits.mono _ _)
      | (with_reducible exact lookoutlaw16_of.mono _ _)
      | (with_reducible exact lookoutlaw16_satisfies.mono _ _ _ _ _ _ _ _ _ _)
      | (with_reducible exact zonemap_May.mono _ _ _ _ _ _ _ _ _ _ _ _ _ _ _ _ _ _ _ _)
      | (with_reducible exact LeO.refl _)
      | (with_reducible exact LeO.none _)
      | (with_reducible refine LeO.ite ?_ ?_)
      | (with_reducible refine LeO.bind ?_ (fun _ => ?_))
      | exact ih0 _ _ _ _ _ _ _ _ _
      | exact ih1 _ _ _ _ _ _ _ _ _ _ _ _ _ _ _ _ _ _ _ _ _ _ _ _ _ _ _ _ _ _ _ _ _ _ _ _
      | exact ih2 _ _ _ _ _ _ _ _ _ _ _ _ _ _ _ _ _ _ _ _ _ _ _ _ _ _ _ _ _ _ _ _ _ _ _ _ _ _ _ _ _ _
      | exact lookoutlaw16_awake.mono _
      | exact lookoutlaw16_fits.mono _ _
      | exact lookoutlaw16_of.mono _ _
      | exact lookoutlaw16_satisfies.mono _ _ _ _ _ _ _ _ _ _
      | exact zonemap_May.mono _ _ _ _ _ _ _ _ _ _ _ _ _ _ _ _ _ _ _ _
      | exact LeO.none _
      | refine LeO.ite ?_ ?_
      | refine LeO.bind ?_ (fun _ => ?_)
set_option maxHeartbeats 8000000 in
set_option maxRecDepth 100000 in
theorem lookoutlaw16_ZonemapHits.calls (k : Nat) (A0 : Option Addr) (c0 : Nat) (l0 : List (S40)) (A1 : Option Addr) (c1 : Nat) (l1 : List (S40)) (a2_0 : Int) (a2_1 : Int) (a2_2 : Bool) (a2_3 : Int) (a2_4 : Int) (A2_5 : Option Addr) (c2_5 : Nat) (l2_5 : List ByteArray) (r : Bool) (w : World) (hr0 : Kd.C k40 w A0 l0.length l0) (hc0 : l0.length ≤ c0) (hr1 : Kd.C k40 w A1 l1.length l1) (hc1 : l1.length ≤ c1) (hr2_5 : Kd.C Kd.string w A2_5 l2_5.length l2_5) (hc2_5 : l2_5.length ≤ c2_5) (h : lookoutlaw16_ZonemapHits.f k l0 l1 a2_0 a2_1 a2_2 a2_3 a2_4 l2_5 = some r) :
    Calls Try.prog 7 #[.slice A0 l0.length c0, .slice A1 l1.length c1, .agg #[.int .i64 a2_0, .int .i64 a2_1, .bool a2_2, .int .i64 a2_3, .int .i64 a2_4, .slice A2_5 l2_5.length c2_5]] w fun e w' => e = .returned (.bool r) ∧ Below w.heap.size w w' := by
  have hu35 := Try.underlying35
  have hu25 := Try.underlying25
  have hu40 := Try.underlying40
  have HR0 := Aside0.mk hr0
  have HC0 := Aside0.mk hc0
  clear hr0 hc0
  have HR1 := Aside0.mk hr1
  have HC1 := Aside0.mk hc1
  clear hr1 hc1
  have HR2_5 := Aside0.mk hr2_5
  have HC2_5 := Aside0.mk hc2_5
  clear hr2_5 hc2_5
  have HB := Aside0.mk (Below.refl w.heap.size w)
  have H : ((lookoutlaw16_fits.f k l0).bind fun t298 => (if t298 = true then ((lookoutlaw16_fits.f k l1).bind fun t299 => (if t299 = true then ((lookoutlaw16_short.f l2_5).bind fun t300 => (lookoutlaw16_ZonemapHits.j0 k l0 l1 (!t300) a2_0 a2_1 a2_2 a2_3 a2_4 l2_5)) else (lookoutlaw16_ZonemapHits.j0 k l0 l1 true a2_0 a2_1 a2_2 a2_3 a2_4 l2_5))) else (lookoutlaw16_ZonemapHits.j0 k l0 l1 true a2_0 a2_1 a2_2 a2_3 a2_4 l2_5))) = some r := h
  clear h
  have HC4 := Aside0.mk H
  clear H
  go_enter Try.func7, Try.ntmps7
  go_upto_region 1 with (first | ((with_reducible refine gate_dst (N := 5) rfl ?_); refine box_event ?hg (N := 5) ?hd (cs := #[.int .i64 a2_0, .int .i64 a2_1, .bool a2_2, .int .i64 a2_3, .int .i64 a2_4, .slice A2_5 l2_5.length c2_5]) (t := 35) ?hr ?_; (case hd => rfl); (case hg => rfl); (case hr => first | (go_simp; done) | (go_simp; rfl)); intro gb297 hg w5 hbox hb; have n0_ := Aside0.mk (below_step (by repeat (first | (with_reducible first | exact HB.out | apply below_alloc | apply pw_below_drewN | apply below_drew1) | exact HB.out)) hb); have n1_ := Aside0.mk (hbox); have n2_ := Aside0.mk ((by rw [hg]; exact (below_size (by repeat (first | (with_reducible first | exact HB.out | apply below_alloc | apply pw_below_drewN | apply below_drew1) | exact HB.out))) : w.heap.size ≤ gb297)); have n3_ := Aside0.mk ((by rw [hg]; exact (below_size (by repeat (first | (with_reducible first | exact HB.out | apply below_alloc | apply pw_below_drewN | apply below_drew1) | exact HB.out))) : w.heap.size ≤ gb297)); clear HB; have HB := n0_; have BK297 := n1_; have GW297 := n2_; have GE297 := n3_; clear n0_ n1_ n2_ n3_; clear hb hbox hg))
  (try simp only [Act.put, List.setIfInBounds_toArray, List.set_cons_zero, List.set_cons_succ])
  go_cut [26] (fun v26 wc => ∃ (kq : Nat) (x26_3 : Bool), v26 = .bool x26_3 ∧ Aside0 (lookoutlaw16_ZonemapHits.j0 kq l0 l1 x26_3 a2_0 a2_1 a2_2 a2_3 a2_4 l2_5 = some r) ∧ Aside0 (kq ≤ k) ∧ Aside0 (wc.heap[gb297]? = some (.cells #[.int .i64 a2_0, .int .i64 a2_1, .bool a2_2, .int .i64 a2_3, .int .i64 a2_4, (.slice A2_5 l2_5.length c2_5)] 35 (0, 0))) ∧ Aside0 (Below w.heap.size w wc))
  case first =>
    have H := HC4.out
    clear HC4
    replace H := Option.bind_eq_some_iff.mp H
    obtain ⟨t298, A60, H⟩ := H
    replace H : (if t298 = true then ((lookoutlaw16_fits.f k l1).bind fun t299 => (if t299 = true then ((lookoutlaw16_short.f l2_5).bind fun t300 => (lookoutlaw16_ZonemapHits.j0 k l0 l1 (!t300) a2_0 a2_1 a2_2 a2_3 a2_4 l2_5)) else (lookoutlaw16_ZonemapHits.j0 k l0 l1 true a2_0 a2_1 a2_2 a2_3 a2_4 l2_5))) else (lookoutlaw16_ZonemapHits.j0 k l0 l1 true a2_0 a2_1 a2_2 a2_3 a2_4 l2_5)) = some r := H
    have A6 := Aside0.mk A60
    clear A60
    by_cases c7 : t298 = true
    · subst c7
      have H1 : ((lookoutlaw16_fits.f k l1).bind fun t299 => (if t299 = true then ((lookoutlaw16_short.f l2_5).bind fun t300 => (lookoutlaw16_ZonemapHits.j0 k l0 l1 (!t300) a2_0 a2_1 a2_2 a2_3 a2_4 l2_5)) else (lookoutlaw16_ZonemapHits.j0 k l0 l1 true a2_0 a2_1 a2_2 a2_3 a2_4 l2_5))) = some r := by rw [if_pos rfl] at H; exact H
      clear H
      have H := H1
      clear H1
      replace H := Option.bind_eq_some_iff.mp H
      obtain ⟨t299, A80, H⟩ := H
      replace H : (if t299 = true then ((lookoutlaw16_short.f l2_5).bind fun t300 => (lookoutlaw16_ZonemapHits.j0 k l0 l1 (!t300) a2_0 a2_1 a2_2 a2_3 a2_4 l2_5)) else (lookoutlaw16_ZonemapHits.j0 k l0 l1 true a2_0 a2_1 a2_2 a2_3 a2_4 l2_5)) = some r := H
      have A8 := Aside0.mk A80
      clear A80
      by_cases c9 : t299 = true
      · subst c9
        have H1 : ((lookoutlaw16_short.f l2_5).bind fun t300 => (lookoutlaw16_ZonemapHits.j0 k l0 l1 (!t300) a2_0 a2_1 a2_2 a2_3 a2_4 l2_5)) = some r := by rw [if_pos rfl] at H; exact H
        clear H
        have H := H1
        clear H1
        replace H := Option.bind_eq_some_iff.mp H
        obtain ⟨t300, A100, H⟩ := H
        replace H : (lookoutlaw16_ZonemapHits.j0 k l0 l1 (!t300) a2_0 a2_1 a2_2 a2_3 a2_4 l2_5) = some r := H
        have A10 := Aside0.mk A100
        clear A100
        have H' := Aside0.mk H
        clear H
        go_wp2_with (first | ((with_reducible refine gate_callee (f := 23) rfl ?_); refine goesL_ (some 14) rfl rfl Try.func23 (by kernel_rfl) rfl #[.slice A0 l0.length c0] rfl (by (try simp only [List.map_toArray, List.map_cons, List.map_nil]); first | done | rfl | (simp only [List.length_drop, List.length_take]; rfl)) ?_; (with_reducible refine (lookoutlaw16_fits.calls k _ _ l0 true _ ?side1 ?side2 A6.out).mono ?_); (case side1 => repeat (first | exact (Kd.C_below HR0.out HB.out) | (with_reducible refine Kd.C_alloc ?_ _) | (with_reducible refine Kd.C_drewN ?_ _) | (with_reducible refine Kd.C_drew ?_))); (case side2 => exact HC0.out); rintro e w11 ⟨rfl, hb⟩; refine ⟨_, rfl, ?_⟩; have n0_ := Aside0.mk (blk_below (g := gb297) (o := .cells #[.int .i64 a2_0, .int .i64 a2_1, .bool a2_2, .int .i64 a2_3, .int .i64 a2_4, .slice A2_5 l2_5.length c2_5] 35 (0, 0)) (by (with_reducible repeat (first | refine blk_drewN ?_ _ | refine blk_drew ?_ | refine blk_alloc ?_ _)); exact BK297.out) hb); have n1_ := Aside0.mk (below_step (by repeat (first | (with_reducible first | exact HB.out | apply below_alloc | apply pw_below_drewN | apply below_drew1 | refine below_set ?_ GE297.out) | exact HB.out)) hb); clear BK297; clear HB; have BK297 := n0_; have HB := n1_; clear n0_ n1_; (try clear hb); (try clear hb2); (try clear hk); (try clear hi)) | (go_at_call 23; (with_reducible refine (lookoutlaw16_fits.calls k _ _ l1 true _ ?side1 ?side2 A8.out).mono ?_); (case side1 => repeat (first | exact (Kd.C_below HR1.out HB.out) | (with_reducible refine Kd.C_alloc ?_ _) | (with_reducible refine Kd.C_drewN ?_ _) | (with_reducible refine Kd.C_drew ?_))); (case side2 => exact HC1.out); rintro e w12 ⟨rfl, hb⟩; have n0_ := Aside0.mk (blk_below (g := gb297) (o := .cells #[.int .i64 a2_0, .int .i64 a2_1, .bool a2_2, .int .i64 a2_3, .int .i64 a2_4, .slice A2_5 l2_5.length c2_5] 35 (0, 0)) (by (with_reducible repeat (first | refine blk_drewN ?_ _ | refine blk_drew ?_ | refine blk_alloc ?_ _)); exact BK297.out) hb); have n1_ := Aside0.mk (below_step (by repeat (first | (with_reducible first | exact HB.out | apply below_alloc | apply pw_below_drewN | apply below_drew1 | refine below_set ?_ GE297.out) | exact HB.out)) hb); clear BK297; clear HB; have BK297 := n0_; have HB := n1_; clear n0_ n1_; (try clear hb); (try clear hb2); (try clear hk); (try clear hi); have hcz13_0 : w12.cell? ⟨gb297, 0, none⟩ = some (.int .i64 a2_0) := (blk_cell BK297.out 0).trans rfl; have hcz13_1 : w12.cell? ⟨gb297, 1, none⟩ = some (.int .i64 a2_1) := (blk_cell BK297.out 1).trans rfl; have hcz13_2 : w12.cell? ⟨gb297, 2, none⟩ = some (.bool a2_2) := (blk_cell BK297.out 2).trans rfl; have hcz13_3 : w12.cell? ⟨gb297, 3, none⟩ = some (.int .i64 a2_3) := (blk_cell BK297.out 3).trans rfl; have hcz13_4 : w12.cell? ⟨gb297, 4, none⟩ = some (.int .i64 a2_4) := (blk_cell BK297.out 4).trans rfl; have hcz13_5 : w12.cell? ⟨gb297, 5, none⟩ = some (.slice A2_5 l2_5.length c2_5) := (blk_cell BK297.out 5).trans rfl; have hfz13_0 := blk_frozen BK297.out 0; have hfz13_1 := blk_frozen BK297.out 1; have hfz13_2 := blk_frozen BK297.out 2; have hfz13_3 := blk_frozen BK297.out 3; have hfz13_4 := blk_frozen BK297.out 4; have hfz13_5 := blk_frozen BK297.out 5) | (go_at_call 11; (with_reducible refine (lookoutlaw16_short.calls _ _ l2_5 t300 _ ?side1 ?side2 A10.out).mono ?_); (case side1 => repeat (first | exact (Kd.C_below HR2_5.out HB.out) | (with_reducible refine Kd.C_alloc ?_ _) | (with_reducible refine Kd.C_drewN ?_ _) | (with_reducible refine Kd.C_drew ?_))); (case side2 => exact HC2_5.out); rintro e w' ⟨rfl, ⟨nd, rfl⟩⟩))
        go_meet
        case rel => exact ⟨_, (!t300), (by first | rfl | (simp; done) | (simp [*]; done)), H', ⟨by first | omega | exact Nat.le_refl _⟩, ⟨by (with_reducible repeat (first | refine blk_drewN ?_ _ | refine blk_drew ?_ | refine blk_alloc ?_ _)); exact BK297.out⟩, ⟨by repeat (first | (with_reducible first | exact HB.out | apply below_alloc | apply pw_below_drewN | apply below_drew1 | refine below_set ?_ GE297.out) | exact HB.out)⟩⟩
      · replace c9 := Bool.eq_false_iff.mpr c9
        subst c9
        have H1 : (lookoutlaw16_ZonemapHits.j0 k l0 l1 true a2_0 a2_1 a2_2 a2_3 a2_4 l2_5) = some r := by rw [if_neg (show ¬ (false = true) by decide)] at H; exact H
        clear H
        have H := H1
        clear H1
        have H' := Aside0.mk H
        clear H
        go_wp2_with (first | ((with_reducible refine gate_callee (f := 23) rfl ?_); refine goesL_ (some 14) rfl rfl Try.func23 (by kernel_rfl) rfl #[.slice A0 l0.length c0] rfl (by (try simp only [List.map_toArray, List.map_cons, List.map_nil]); first | done | rfl | (simp only [List.length_drop, List.length_take]; rfl)) ?_; (with_reducible refine (lookoutlaw16_fits.calls k _ _ l0 true _ ?side1 ?side2 A6.out).mono ?_); (case side1 => repeat (first | exact (Kd.C_below HR0.out HB.out) | (with_reducible refine Kd.C_alloc ?_ _) | (with_reducible refine Kd.C_drewN ?_ _) | (with_reducible refine Kd.C_drew ?_))); (case side2 => exact HC0.out); rintro e w14 ⟨rfl, hb⟩; refine ⟨_, rfl, ?_⟩; have n0_ := Aside0.mk (blk_below (g := gb297) (o := .cells #[.int .i64 a2_0, .int .i64 a2_1, .bool a2_2, .int .i64 a2_3, .int .i64 a2_4, .slice A2_5 l2_5.length c2_5] 35 (0, 0)) (by (with_reducible repeat (first | refine blk_drewN ?_ _ | refine blk_drew ?_ | refine blk_alloc ?_ _)); exact BK297.out) hb); have n1_ := Aside0.mk (below_step (by repeat (first | (with_reducible first | exact HB.out | apply below_alloc | apply pw_below_drewN | apply below_drew1 | refine below_set ?_ GE297.out) | exact HB.out)) hb); clear BK297; clear HB; have BK297 := n0_; have HB := n1_; clear n0_ n1_; (try clear hb); (try clear hb2); (try clear hk); (try clear hi)) | (go_at_call 23; (with_reducible refine (lookoutlaw16_fits.calls k _ _ l1 false _ ?side1 ?side2 A8.out).mono ?_); (case side1 => repeat (first | exact (Kd.C_below HR1.out HB.out) | (with_reducible refine Kd.C_alloc ?_ _) | (with_reducible refine Kd.C_drewN ?_ _) | (with_reducible refine Kd.C_drew ?_))); (case side2 => exact HC1.out); rintro e w15 ⟨rfl, hb⟩; have n0_ := Aside0.mk (blk_below (g := gb297) (o := .cells #[.int .i64 a2_0, .int .i64 a2_1, .bool a2_2, .int .i64 a2_3, .int .i64 a2_4, .slice A2_5 l2_5.length c2_5] 35 (0, 0)) (by (with_reducible repeat (first | refine blk_drewN ?_ _ | refine blk_drew ?_ | refine blk_alloc ?_ _)); exact BK297.out) hb); have n1_ := Aside0.mk (below_step (by repeat (first | (with_reducible first | exact HB.out | apply below_alloc | apply pw_below_drewN | apply below_drew1 | refine below_set ?_ GE297.out) | exact HB.out)) hb); clear BK297; clear HB; have BK297 := n0_; have HB := n1_; clear n0_ n1_; (try clear hb); (try clear hb2); (try clear hk); (try clear hi)))
        go_meet
        case rel => exact ⟨_, (true), (by first | rfl | (simp; done) | (simp [*]; done)), H', ⟨by first | omega | exact Nat.le_refl _⟩, ⟨by (with_reducible repeat (first | refine blk_drewN ?_ _ | refine blk_drew ?_ | refine blk_alloc ?_ _)); exact BK297.out⟩, ⟨by repeat (first | (with_reducible first | exact HB.out | apply below_alloc | apply pw_below_drewN | apply below_drew1 | refine below_set ?_ GE297.out) | exact HB.out)⟩⟩
    · replace c7 := Bool.eq_false_iff.mpr c7
      subst c7
      have H1 : (lookoutlaw16_ZonemapHits.j0 k l0 l1 true a2_0 a2_1 a2_2 a2_3 a2_4 l2_5) = some r := by rw [if_neg (show ¬ (false = true) by decide)] at H; exact H
      clear H
      have H := H1
      clear H1
      have H' := Aside0.mk H
      clear H
      go_wp2_with (first | ((with_reducible refine gate_callee (f := 23) rfl ?_); refine goesL_ (some 14) rfl rfl Try.func23 (by kernel_rfl) rfl #[.slice A0 l0.length c0] rfl (by (try simp only [List.map_toArray, List.map_cons, List.map_nil]); first | done | rfl | (simp only [List.length_drop, List.length_take]; rfl)) ?_; (with_reducible refine (lookoutlaw16_fits.calls k _ _ l0 false _ ?side1 ?side2 A6.out).mono ?_); (case side1 => repeat (first | exact (Kd.C_below HR0.out HB.out) | (with_reducible refine Kd.C_alloc ?_ _) | (with_reducible refine Kd.C_drewN ?_ _) | (with_reducible refine Kd.C_drew ?_))); (case side2 => exact HC0.out); rintro e w16 ⟨rfl, hb⟩; refine ⟨_, rfl, ?_⟩; have n0_ := Aside0.mk (blk_below (g := gb297) (o := .cells #[.int .i64 a2_0, .int .i64 a2_1, .bool a2_2, .int .i64 a2_3, .int .i64 a2_4, .slice A2_5 l2_5.length c2_5] 35 (0, 0)) (by (with_reducible repeat (first | refine blk_drewN ?_ _ | refine blk_drew ?_ | refine blk_alloc ?_ _)); exact BK297.out) hb); have n1_ := Aside0.mk (below_step (by repeat (first | (with_reducible first | exact HB.out | apply below_alloc | apply pw_below_drewN | apply below_drew1 | refine below_set ?_ GE297.out) | exact HB.out)) hb); clear BK297; clear HB; have BK297 := n0_; have HB := n1_; clear n0_ n1_; (try clear hb); (try clear hb2); (try clear hk); (try clear hi)))
      go_meet
      case rel => exact ⟨_, (true), (by first | rfl | (simp; done) | (simp [*]; done)), H', ⟨by first | omega | exact Nat.le_refl _⟩, ⟨by (with_reducible repeat (first | refine blk_drewN ?_ _ | refine blk_drew ?_ | refine blk_alloc ?_ _)); exact BK297.out⟩, ⟨by repeat (first | (with_reducible first | exact HB.out | apply below_alloc | apply pw_below_drewN | apply below_drew1 | refine below_set ?_ GE297.out) | exact HB.out)⟩⟩
  case rest =>
    clear HC4
    try clear c1
    try clear c2
    try clear p2
    try clear c7
    try clear c9
    try clear hcz13_0
    try clear hcz13_1
    try clear hcz13_2
    try clear hcz13_3
    try clear hcz13_4
    try clear hcz13_5
    try clear hfz13_0
    try clear hfz13_1
    try clear hfz13_2
    try clear hfz13_3
    try clear hfz13_4
    try clear hfz13_5
    obtain ⟨kq, x26_3, rfl, HA, HJ3, BK297, HB⟩ := hcut
    cases kq with
    | zero => exact absurd HA.out (by simp [lookoutlaw16_ZonemapHits.j0])
    | succ kj3 =>
      have H := HA.out
      clear HA
      simp only [lookoutlaw16_ZonemapHits.j0] at H
      by_cases c17 : x26_3 = true
      · subst c17
        have H1 : ((lookoutlaw16_awake.f kj3).bind fun t301 => (some t301)) = some r := by rw [if_pos rfl] at H; exact H
        clear H
        have H := H1
        clear H1
        replace H := Option.bind_eq_some_iff.mp H
        obtain ⟨t301, A180, H⟩ := H
        replace H : (some t301) = some r := H
        have A18 := Aside0.mk A180
        clear A180
        obtain rfl := Option.some.inj H
        go_wp2_with (first | ((with_reducible refine gate_callee (f := 12) rfl ?_); refine goesL_ (some 27) rfl rfl Try.func12 (by kernel_rfl) rfl #[] rfl (by (try simp only [List.map_toArray, List.map_cons, List.map_nil]); first | done | rfl | (simp only [List.length_drop, List.length_take]; rfl)) ?_; (with_reducible refine (lookoutlaw16_awake.calls kj3  t301 _ A18.out).mono ?_); rintro e w19 ⟨rfl, hb⟩; refine ⟨_, rfl, ?_⟩; have n0_ := Aside0.mk (blk_below (g := gb297) (o := .cells #[.int .i64 a2_0, .int .i64 a2_1, .bool a2_2, .int .i64 a2_3, .int .i64 a2_4, .slice A2_5 l2_5.length c2_5] 35 (0, 0)) (by (with_reducible repeat (first | refine blk_drewN ?_ _ | refine blk_drew ?_ | refine blk_alloc ?_ _)); exact BK297.out) hb); have n1_ := Aside0.mk (below_step (by repeat (first | (with_reducible first | exact HB.out | apply below_alloc | apply pw_below_drewN | apply below_drew1 | refine below_set ?_ GE297.out) | exact HB.out)) hb); clear BK297; clear HB; have BK297 := n0_; have HB := n1_; clear n0_ n1_; (try clear hb); (try clear hb2); (try clear hk); (try clear hi)))
        go_ret
        exact ⟨by first | rfl | (simp [errW_none, errW_some] <;> rfl) | (simp [*, errW_none, errW_some] <;> rfl), by repeat (first | (with_reducible first | exact HB.out | apply below_alloc | apply pw_below_drewN | apply below_drew1 | refine below_set ?_ GE297.out) | exact HB.out)⟩
      · replace c17 := Bool.eq_false_iff.mpr c17
        subst c17
        have H1 : ((lookoutlaw16_of.f kj3 l0).bind fun bt302 => ((lookoutlaw16_of.f kj3 l1).bind fun bt316 => ((zonemap_Merge.f bt302.1 bt302.2.1 bt302.2.2.1 bt302.2.2.2.1 bt302.2.2.2.2.1 bt302.2.2.2.2.2.1 bt302.2.2.2.2.2.2.1 bt302.2.2.2.2.2.2.2.1 bt302.2.2.2.2.2.2.2.2.1 bt302.2.2.2.2.2.2.2.2.2.1 bt302.2.2.2.2.2.2.2.2.2.2.1 bt302.2.2.2.2.2.2.2.2.2.2.2.1 bt302.2.2.2.2.2.2.2.2.2.2.2.2 bt316.1 bt316.2.1 bt316.2.2.1 bt316.2.2.2.1 bt316.2.2.2.2.1 bt316.2.2.2.2.2.1 bt316.2.2.2.2.2.2.1 bt316.2.2.2.2.2.2.2.1 bt316.2.2.2.2.2.2.2.2.1 bt316.2.2.2.2.2.2.2.2.2.1 bt316.2.2.2.2.2.2.2.2.2.2.1 bt316.2.2.2.2.2.2.2.2.2.2.2.1 bt316.2.2.2.2.2.2.2.2.2.2.2.2).bind fun bt329 => (lookoutlaw16_ZonemapHits.l0 kj3 l0 l0 (l0.length : Int) 0 a2_0 a2_1 a2_2 a2_3 a2_4 l2_5 bt302.1 bt302.2.1 bt302.2.2.1 bt302.2.2.2.1 bt302.2.2.2.2.1 bt302.2.2.2.2.2.1 bt302.2.2.2.2.2.2.1 bt302.2.2.2.2.2.2.2.1 bt302.2.2.2.2.2.2.2.2.1 bt302.2.2.2.2.2.2.2.2.2.1 bt302.2.2.2.2.2.2.2.2.2.2.1 bt302.2.2.2.2.2.2.2.2.2.2.2.1 bt302.2.2.2.2.2.2.2.2.2.2.2.2 bt329.1 bt329.2.1 bt329.2.2.1 bt329.2.2.2.1 bt329.2.2.2.2.1 bt329.2.2.2.2.2.1 bt329.2.2.2.2.2.2.1 bt329.2.2.2.2.2.2.2.1 bt329.2.2.2.2.2.2.2.2.1 bt329.2.2.2.2.2.2.2.2.2.1 bt329.2.2.2.2.2.2.2.2.2.2.1 bt329.2.2.2.2.2.2.2.2.2.2.2.1 bt329.2.2.2.2.2.2.2.2.2.2.2.2)))) = some r := by rw [if_neg (show ¬ (false = true) by decide)] at H; exact H
        clear H
        have H := H1
        clear H1
        replace H := Option.bind_eq_some_iff.mp H
        obtain ⟨⟨t302, t303, t304, t305, t306, t307, t308, t309, t310, t311, t312, t313, t314⟩, A200, H⟩ := H
        replace H : ((lookoutlaw16_of.f kj3 l1).bind fun bt316 => ((zonemap_Merge.f t302 t303 t304 t305 t306 t307 t308 t309 t310 t311 t312 t313 t314 bt316.1 bt316.2.1 bt316.2.2.1 bt316.2.2.2.1 bt316.2.2.2.2.1 bt316.2.2.2.2.2.1 bt316.2.2.2.2.2.2.1 bt316.2.2.2.2.2.2.2.1 bt316.2.2.2.2.2.2.2.2.1 bt316.2.2.2.2.2.2.2.2.2.1 bt316.2.2.2.2.2.2.2.2.2.2.1 bt316.2.2.2.2.2.2.2.2.2.2.2.1 bt316.2.2.2.2.2.2.2.2.2.2.2.2).bind fun bt329 => (lookoutlaw16_ZonemapHits.l0 kj3 l0 l0 (l0.length : Int) 0 a2_0 a2_1 a2_2 a2_3 a2_4 l2_5 t302 t303 t304 t305 t306 t307 t308 t309 t310 t311 t312 t313 t314 bt329.1 bt329.2.1 bt329.2.2.1 bt329.2.2.2.1 bt329.2.2.2.2.1 bt329.2.2.2.2.2.1 bt329.2.2.2.2.2.2.1 bt329.2.2.2.2.2.2.2.1 bt329.2.2.2.2.2.2.2.2.1 bt329.2.2.2.2.2.2.2.2.2.1 bt329.2.2.2.2.2.2.2.2.2.2.1 bt329.2.2.2.2.2.2.2.2.2.2.2.1 bt329.2.2.2.2.2.2.2.2.2.2.2.2))) = some r := H
        have A20 := Aside0.mk A200
        clear A200
        replace H := Option.bind_eq_some_iff.mp H
        obtain ⟨⟨t316, t317, t318, t319, t320, t321, t322, t323, t324, t325, t326, t327, t328⟩, A210, H⟩ := H
        replace H : ((zonemap_Merge.f t302 t303 t304 t305 t306 t307 t308 t309 t310 t311 t312 t313 t314 t316 t317 t318 t319 t320 t321 t322 t323 t324 t325 t326 t327 t328).bind fun bt329 => (lookoutlaw16_ZonemapHits.l0 kj3 l0 l0 (l0.length : Int) 0 a2_0 a2_1 a2_2 a2_3 a2_4 l2_5 t302 t303 t304 t305 t306 t307 t308 t309 t310 t311 t312 t313 t314 bt329.1 bt329.2.1 bt329.2.2.1 bt329.2.2.2.1 bt329.2.2.2.2.1 bt329.2.2.2.2.2.1 bt329.2.2.2.2.2.2.1 bt329.2.2.2.2.2.2.2.1 bt329.2.2.2.2.2.2.2.2.1 bt329.2.2.2.2.2.2.2.2.2.1 bt329.2.2.2.2.2.2.2.2.2.2.1 bt329.2.2.2.2.2.2.2.2.2.2.2.1 bt329.2.2.2.2.2.2.2.2.2.2.2.2)) = some r := H
        have A21 := Aside0.mk A210
        clear A210
        replace H := Option.bind_eq_some_iff.mp H
        obtain ⟨⟨t329, t330, t331, t332, t333, t334, t335, t336, t337, t338, t339, t340, t341⟩, A220, H⟩ := H
        replace H : (lookoutlaw16_ZonemapHits.l0 kj3 l0 l0 (l0.length : Int) 0 a2_0 a2_1 a2_2 a2_3 a2_4 l2_5 t302 t303 t304 t305 t306 t307 t308 t309 t310 t311 t312 t313 t314 t329 t330 t331 t332 t333 t334 t335 t336 t337 t338 t339 t340 t341) = some r := H
        have A22 := Aside0.mk A220
        clear A220
        have H' := Aside0.mk H
        clear H
        try go_wp2_with (first | ((with_reducible refine gate_callee (f := 24) rfl ?_); refine goesL_ (some 29) rfl rfl Try.func24 (by kernel_rfl) rfl #[.slice A0 l0.length c0] rfl (by (try simp only [List.map_toArray, List.map_cons, List.map_nil]); first | done | rfl | (simp only [List.length_drop, List.length_take]; rfl)) ?_; (with_reducible refine (lookoutlaw16_of.calls kj3 _ _ l0 t302 t303 t304 t305 t306 t307 t308 t309 t310 t311 t312 t313 t314 _ ?side1 ?side2 A20.out).mono ?_); (case side1 => repeat (first | exact (Kd.C_below HR0.out HB.out) | (with_reducible refine Kd.C_alloc ?_ _) | (with_reducible refine Kd.C_drewN ?_ _) | (with_reducible refine Kd.C_drew ?_))); (case side2 => exact HC0.out); rintro e w23 ⟨rfl, hb⟩; refine ⟨_, rfl, ?_⟩; have n0_ := Aside0.mk (blk_below (g := gb297) (o := .cells #[.int .i64 a2_0, .int .i64 a2_1, .bool a2_2, .int .i64 a2_3, .int .i64 a2_4, .slice A2_5 l2_5.length c2_5] 35 (0, 0)) (by (with_reducible repeat (first | refine blk_drewN ?_ _ | refine blk_drew ?_ | refine blk_alloc ?_ _)); exact BK297.out) hb); have n1_ := Aside0.mk (below_step (by repeat (first | (with_reducible first | exact HB.out | apply below_alloc | apply pw_below_drewN | apply below_drew1 | refine below_set ?_ GE297.out) | exact HB.out)) hb); clear BK297; clear HB; have BK297 := n0_; have HB := n1_; clear n0_ n1_; (try clear hb); (try clear hb2); (try clear hk); (try clear hi)) | ((with_reducible refine gate_dst (N := 7) rfl ?_); refine box_event ?hg (N := 7) ?hd (cs := #[.int .i64 0, .int .i64 0, .int .i64 0, .int .i64 0, .int .i64 0, .int .u32 0, .int .u32 0, .int .u32 0, .int .u32 0, .int .u32 0, .int .u32 0, .int .u32 0, .int .u32 0]) (t := 25) ?hr ?_; (case hd => rfl); (case hg => rfl); (case hr => first | (go_simp; done) | (go_simp; rfl)); intro gb315 hg w24 hbox hb; have n0_ := Aside0.mk (blk_below (g := gb297) (o := .cells #[.int .i64 a2_0, .int .i64 a2_1, .bool a2_2, .int .i64 a2_3, .int .i64 a2_4, .slice A2_5 l2_5.length c2_5] 35 (0, 0)) (by (with_reducible repeat (first | refine blk_drewN ?_ _ | refine blk_drew ?_ | refine blk_alloc ?_ _)); exact BK297.out) hb); have n1_ := Aside0.mk (below_step (by repeat (first | (with_reducible first | exact HB.out | apply below_alloc | apply pw_below_drewN | apply below_drew1 | refine below_set ?_ GE297.out) | exact HB.out)) hb); have n2_ := Aside0.mk (hbox); have n3_ := Aside0.mk ((by rw [hg]; exact (below_size (by repeat (first | (with_reducible first | exact HB.out | apply below_alloc | apply pw_below_drewN | apply below_drew1 | refine below_set ?_ GE297.out) | exact HB.out))) : w.heap.size ≤ gb315)); have n4_ := Aside0.mk ((by rw [hg]; exact (below_size (by repeat (first | (with_reducible first | exact HB.out | apply below_alloc | apply pw_below_drewN | apply below_drew1 | refine below_set ?_ GE297.out) | exact HB.out))) : w.heap.size ≤ gb315)); have n5_ := Aside0.mk ((by rw [hg]; exact Nat.ne_of_lt (blk_lt (g := gb297) (o := .cells #[.int .i64 a2_0, .int .i64 a2_1, .bool a2_2, .int .i64 a2_3, .int .i64 a2_4, .slice A2_5 l2_5.length c2_5] 35 (0, 0)) (by (with_reducible repeat (first | refine blk_drewN ?_ _ | refine blk_drew ?_ | refine blk_alloc ?_ _)); exact BK297.out)) : gb297 ≠ gb315)); have n6_ := Aside0.mk ((by rw [hg]; exact Nat.ne_of_gt (blk_lt (g := gb297) (o := .cells #[.int .i64 a2_0, .int .i64 a2_1, .bool a2_2, .int .i64 a2_3, .int .i64 a2_4, .slice A2_5 l2_5.length c2_5] 35 (0, 0)) (by (with_reducible repeat (first | refine blk_drewN ?_ _ | refine blk_drew ?_ | refine blk_alloc ?_ _)); exact BK297.out)) : gb315 ≠ gb297)); clear BK297; clear HB; have BK297 := n0_; have HB := n1_; have BK315 := n2_; have GW315 := n3_; have GE315 := n4_; have NB297_315 := n5_; have NB315_297 := n6_; clear n0_ n1_ n2_ n3_ n4_ n5_ n6_; clear hb hbox hg; have hnb25 := NB315_297.out; have hnc25 := NB297_315.out; have hcz26_0 : w24.cell? ⟨gb315, 0, none⟩ = some (.int .i64 0) := (blk_cell BK315.out 0).trans rfl; have hcz26_1 : w24.cell? ⟨gb315, 1, none⟩ = some (.int .i64 0) := (blk_cell BK315.out 1).trans rfl; have hcz26_2 : w24.cell? ⟨gb315, 2, none⟩ = some (.int .i64 0) := (blk_cell BK315.out 2).trans rfl; have hcz26_3 : w24.cell? ⟨gb315, 3, none⟩ = some (.int .i64 0) := (blk_cell BK315.out 3).trans rfl; have hcz26_4 : w24.cell? ⟨gb315, 4, none⟩ = some (.int .i64 0) := (blk_cell BK315.out 4).trans rfl; have hcz26_5 : w24.cell? ⟨gb315, 5, none⟩ = some (.int .u32 0) := (blk_cell BK315.out 5).trans rfl; have hcz26_6 : w24.cell? ⟨gb315, 6, none⟩ = some (.int .u32 0) := (blk_cell BK315.out 6).trans rfl; have hcz26_7 : w24.cell? ⟨gb315, 7, none⟩ = some (.int .u32 0) := (blk_cell BK315.out 7).trans rfl; have hcz26_8 : w24.cell? ⟨gb315, 8, none⟩ = some (.int .u32 0) := (blk_cell BK315.out 8).trans rfl; have hcz26_9 : w24.cell? ⟨gb315, 9, none⟩ = some (.int .u32 0) := (blk_cell BK315.out 9).trans rfl; have hcz26_10 : w24.cell? ⟨gb315, 10, none⟩ = some (.int .u32 0) := (blk_cell BK315.out 10).trans rfl; have hcz26_11 : w24.cell? ⟨gb315, 11, none⟩ = some (.int .u32 0) := (blk_cell BK315.out 11).trans rfl; have hcz26_12 : w24.cell? ⟨gb315, 12, none⟩ = some (.int .u32 0) := (blk_cell BK315.out 12).trans rfl; have hfz26_0 := blk_frozen BK315.out 0; have hfz26_1 := blk_frozen BK315.out 1; have hfz26_2 := blk_frozen BK315.out 2; have hfz26_3 := blk_frozen BK315.out 3; have hfz26_4 := blk_frozen BK315.out 4; have hfz26_5 := blk_frozen BK315.out 5; have hfz26_6 := blk_frozen BK315.out 6; have hfz26_7 := blk_frozen BK315.out 7; have hfz26_8 := blk_frozen BK315.out 8; have hfz26_9 := blk_frozen BK315.out 9; have hfz26_10 := blk_frozen BK315.out 10; have hfz26_11 := blk_frozen BK315.out 11; have hfz26_12 := blk_frozen BK315.out 12))
        have n0_ : Aside0 ((((((((((((((w24.setCell ⟨gb315, 0, none⟩ (.int .i64 t302)).setCell ⟨gb315, 1, none⟩ (.int .i64 t303)).setCell ⟨gb315, 2, none⟩ (.int .i64 t304)).setCell ⟨gb315, 3, none⟩ (.int .i64 t305)).setCell ⟨gb315, 4, none⟩ (.int .i64 t306)).setCell ⟨gb315, 5, none⟩ (.int .u32 t307)).setCell ⟨gb315, 6, none⟩ (.int .u32 t308)).setCell ⟨gb315, 7, none⟩ (.int .u32 t309)).setCell ⟨gb315, 8, none⟩ (.int .u32 t310)).setCell ⟨gb315, 9, none⟩ (.int .u32 t311)).setCell ⟨gb315, 10, none⟩ (.int .u32 t312)).setCell ⟨gb315, 11, none⟩ (.int .u32 t313)).setCell ⟨gb315, 12, none⟩ (.int .u32 t314)).heap[gb297]? = some (.cells #[.int .i64 a2_0, .int .i64 a2_1, .bool a2_2, .int .i64 a2_3, .int .i64 a2_4, .slice A2_5 l2_5.length c2_5] 35 (0, 0))) := ⟨by (with_reducible repeat (first | refine blk_drewN ?_ _ | refine blk_drew ?_ | refine blk_alloc ?_ _)); refine blk_far ?_ NB297_315.out _; (with_reducible repeat (first | refine blk_drewN ?_ _ | refine blk_drew ?_ | refine blk_alloc ?_ _)); refine blk_far ?_ NB297_315.out _; (with_reducible repeat (first | refine blk_drewN ?_ _ | refine blk_drew ?_ | refine blk_alloc ?_ _)); refine blk_far ?_ NB297_315.out _; (with_reducible repeat (first | refine blk_drewN ?_ _ | refine blk_drew ?_ | refine blk_alloc ?_ _)); refine blk_far ?_ NB297_315.out _; (with_reducible repeat (first | refine blk_drewN ?_ _ | refine blk_drew ?_ | refine blk_alloc ?_ _)); refine blk_far ?_ NB297_315.out _; (with_reducible repeat (first | refine blk_drewN ?_ _ | refine blk_drew ?_ | refine blk_alloc ?_ _)); refine blk_far ?_ NB297_315.out _; (with_reducible repeat (first | refine blk_drewN ?_ _ | refine blk_drew ?_ | refine blk_alloc ?_ _)); refine blk_far ?_ NB297_315.out _; (with_reducible repeat (first | refine blk_drewN ?_ _ | refine blk_drew ?_ | refine blk_alloc ?_ _)); refine blk_far ?_ NB297_315.out _; (with_reducible repeat (first | refine blk_drewN ?_ _ | refine blk_drew ?_ | refine blk_alloc ?_ _)); refine blk_far ?_ NB297_315.out _; (with_reducible repeat (first | refine blk_drewN ?_ _ | refine blk_drew ?_ | refine blk_alloc ?_ _)); refine blk_far ?_ NB297_315.out _; (with_reducible repeat (first | refine blk_drewN ?_ _ | refine blk_drew ?_ | refine blk_alloc ?_ _)); refine blk_far ?_ NB297_315.out _; (with_reducible repeat (first | refine blk_drewN ?_ _ | refine blk_drew ?_ | refine blk_alloc ?_ _)); refine blk_far ?_ NB297_315.out _; (with_reducible repeat (first | refine blk_drewN ?_ _ | refine blk_drew ?_ | refine blk_alloc ?_ _)); refine blk_far ?_ NB297_315.out _; (with_reducible repeat (first | refine blk_drewN ?_ _ | refine blk_drew ?_ | refine blk_alloc ?_ _)); exact BK297.out⟩
        have n1_ : Aside0 ((((((((((((((w24.setCell ⟨gb315, 0, none⟩ (.int .i64 t302)).setCell ⟨gb315, 1, none⟩ (.int .i64 t303)).setCell ⟨gb315, 2, none⟩ (.int .i64 t304)).setCell ⟨gb315, 3, none⟩ (.int .i64 t305)).setCell ⟨gb315, 4, none⟩ (.int .i64 t306)).setCell ⟨gb315, 5, none⟩ (.int .u32 t307)).setCell ⟨gb315, 6, none⟩ (.int .u32 t308)).setCell ⟨gb315, 7, none⟩ (.int .u32 t309)).setCell ⟨gb315, 8, none⟩ (.int .u32 t310)).setCell ⟨gb315, 9, none⟩ (.int .u32 t311)).setCell ⟨gb315, 10, none⟩ (.int .u32 t312)).setCell ⟨gb315, 11, none⟩ (.int .u32 t313)).setCell ⟨gb315, 12, none⟩ (.int .u32 t314)).heap[gb315]? = some (.cells #[.int .i64 t302, .int .i64 t303, .int .i64 t304, .int .i64 t305, .int .i64 t306, .int .u32 t307, .int .u32 t308, .int .u32 t309, .int .u32 t310, .int .u32 t311, .int .u32 t312, .int .u32 t313, .int .u32 t314] 25 (0, 0))) := ⟨by (with_reducible repeat (first | refine blk_drewN ?_ _ | refine blk_drew ?_ | refine blk_alloc ?_ _)); refine blk_put (cs := #[.int .i64 t302, .int .i64 t303, .int .i64 t304, .int .i64 t305, .int .i64 t306, .int .u32 t307, .int .u32 t308, .int .u32 t309, .int .u32 t310, .int .u32 t311, .int .u32 t312, .int .u32 t313, .int .u32 0]) ?_ 12 _ rfl; (with_reducible repeat (first | refine blk_drewN ?_ _ | refine blk_drew ?_ | refine blk_alloc ?_ _)); refine blk_put (cs := #[.int .i64 t302, .int .i64 t303, .int .i64 t304, .int .i64 t305, .int .i64 t306, .int .u32 t307, .int .u32 t308, .int .u32 t309, .int .u32 t310, .int .u32 t311, .int .u32 t312, .int .u32 0, .int .u32 0]) ?_ 11 _ rfl; (with_reducible repeat (first | refine blk_drewN ?_ _ | refine blk_drew ?_ | refine blk_alloc ?_ _)); refine blk_put (cs := #[.int .i64 t302, .int .i64 t303, .int .i64 t304, .int .i64 t305, .int .i64 t306, .int .u32 t307, .int .u32 t308, .int .u32 t309, .int .u32 t310, .int .u32 t311, .int .u32 0, .int .u32 0, .int .u32 0]) ?_ 10 _ rfl; (with_reducible repeat (first | refine blk_drewN ?_ _ | refine blk_drew ?_ | refine blk_alloc ?_ _)); refine blk_put (cs := #[.int .i64 t302, .int .i64 t303, .int .i64 t304, .int .i64 t305, .int .i64 t306, .int .u32 t307, .int .u32 t308, .int .u32 t309, .int .u32 t310, .int .u32 0, .int .u32 0, .int .u32 0, .int .u32 0]) ?_ 9 _ rfl; (with_reducible repeat (first | refine blk_drewN ?_ _ | refine blk_drew ?_ | refine blk_alloc ?_ _)); refine blk_put (cs := #[.int .i64 t302, .int .i64 t303, .int .i64 t304, .int .i64 t305, .int .i64 t306, .int .u32 t307, .int .u32 t308, .int .u32 t309, .int .u32 0, .int .u32 0, .int .u32 0, .int .u32 0, .int .u32 0]) ?_ 8 _ rfl; (with_reducible repeat (first | refine blk_drewN ?_ _ | refine blk_drew ?_ | refine blk_alloc ?_ _)); refine blk_put (cs := #[.int .i64 t302, .int .i64 t303, .int .i64 t304, .int .i64 t305, .int .i64 t306, .int .u32 t307, .int .u32 t308, .int .u32 0, .int .u32 0, .int .u32 0, .int .u32 0, .int .u32 0, .int .u32 0]) ?_ 7 _ rfl; (with_reducible repeat (first | refine blk_drewN ?_ _ | refine blk_drew ?_ | refine blk_alloc ?_ _)); refine blk_put (cs := #[.int .i64 t302, .int .i64 t303, .int .i64 t304, .int .i64 t305, .int .i64 t306, .int .u32 t307, .int .u32 0, .int .u32 0, .int .u32 0, .int .u32 0, .int .u32 0, .int .u32 0, .int .u32 0]) ?_ 6 _ rfl; (with_reducible repeat (first | refine blk_drewN ?_ _ | refine blk_drew ?_ | refine blk_alloc ?_ _)); refine blk_put (cs := #[.int .i64 t302, .int .i64 t303, .int .i64 t304, .int .i64 t305, .int .i64 t306, .int .u32 0, .int .u32 0, .int .u32 0, .int .u32 0, .int .u32 0, .int .u32 0, .int .u32 0, .int .u32 0]) ?_ 5 _ rfl; (with_reducible repeat (first | refine blk_drewN ?_ _ | refine blk_drew ?_ | refine blk_alloc ?_ _)); refine blk_put (cs := #[.int .i64 t302, .int .i64 t303, .int .i64 t304, .int .i64 t305, .int .i64 0, .int .u32 0, .int .u32 0, .int .u32 0, .int .u32 0, .int .u32 0, .int .u32 0, .int .u32 0, .int .u32 0]) ?_ 4 _ rfl; (with_reducible repeat (first | refine blk_drewN ?_ _ | refine blk_drew ?_ | refine blk_alloc ?_ _)); refine blk_put (cs := #[.int .i64 t302, .int .i64 t303, .int .i64 t304, .int .i64 0, .int .i64 0, .int .u32 0, .int .u32 0, .int .u32 0, .int .u32 0, .int .u32 0, .int .u32 0, .int .u32 0, .int .u32 0]) ?_ 3 _ rfl; (with_reducible repeat (first | refine blk_drewN ?_ _ | refine blk_drew ?_ | refine blk_alloc ?_ _)); refine blk_put (cs := #[.int .i64 t302, .int .i64 t303, .int .i64 0, .int .i64 0, .int .i64 0, .int .u32 0, .int .u32 0, .int .u32 0, .int .u32 0, .int .u32 0, .int .u32 0, .int .u32 0, .int .u32 0]) ?_ 2 _ rfl; (with_reducible repeat (first | refine blk_drewN ?_ _ | refine blk_drew ?_ | refine blk_alloc ?_ _)); refine blk_put (cs := #[.int .i64 t302, .int .i64 0, .int .i64 0, .int .i64 0, .int .i64 0, .int .u32 0, .int .u32 0, .int .u32 0, .int .u32 0, .int .u32 0, .int .u32 0, .int .u32 0, .int .u32 0]) ?_ 1 _ rfl; (with_reducible repeat (first | refine blk_drewN ?_ _ | refine blk_drew ?_ | refine blk_alloc ?_ _)); refine blk_put (cs := #[.int .i64 0, .int .i64 0, .int .i64 0, .int .i64 0, .int .i64 0, .int .u32 0, .int .u32 0, .int .u32 0, .int .u32 0, .int .u32 0, .int .u32 0, .int .u32 0, .int .u32 0]) ?_ 0 _ rfl; (with_reducible repeat (first | refine blk_drewN ?_ _ | refine blk_drew ?_ | refine blk_alloc ?_ _)); exact BK315.out⟩
        have n2_ : Aside0 (Below w.heap.size w (((((((((((((w24.setCell ⟨gb315, 0, none⟩ (.int .i64 t302)).setCell ⟨gb315, 1, none⟩ (.int .i64 t303)).setCell ⟨gb315, 2, none⟩ (.int .i64 t304)).setCell ⟨gb315, 3, none⟩ (.int .i64 t305)).setCell ⟨gb315, 4, none⟩ (.int .i64 t306)).setCell ⟨gb315, 5, none⟩ (.int .u32 t307)).setCell ⟨gb315, 6, none⟩ (.int .u32 t308)).setCell ⟨gb315, 7, none⟩ (.int .u32 t309)).setCell ⟨gb315, 8, none⟩ (.int .u32 t310)).setCell ⟨gb315, 9, none⟩ (.int .u32 t311)).setCell ⟨gb315, 10, none⟩ (.int .u32 t312)).setCell ⟨gb315, 11, none⟩ (.int .u32 t313)).setCell ⟨gb315, 12, none⟩ (.int .u32 t314))) := ⟨by repeat (first | (with_reducible first | exact HB.out | apply below_alloc | apply pw_below_drewN | apply below_drew1 | refine below_set ?_ GE297.out | refine below_set ?_ GE315.out) | exact HB.out)⟩
        (try clear BK297)
        (try clear BK315)
        (try clear HB)
        generalize (((((((((((((w24.setCell ⟨gb315, 0, none⟩ (.int .i64 t302)).setCell ⟨gb315, 1, none⟩ (.int .i64 t303)).setCell ⟨gb315, 2, none⟩ (.int .i64 t304)).setCell ⟨gb315, 3, none⟩ (.int .i64 t305)).setCell ⟨gb315, 4, none⟩ (.int .i64 t306)).setCell ⟨gb315, 5, none⟩ (.int .u32 t307)).setCell ⟨gb315, 6, none⟩ (.int .u32 t308)).setCell ⟨gb315, 7, none⟩ (.int .u32 t309)).setCell ⟨gb315, 8, none⟩ (.int .u32 t310)).setCell ⟨gb315, 9, none⟩ (.int .u32 t311)).setCell ⟨gb315, 10, none⟩ (.int .u32 t312)).setCell ⟨gb315, 11, none⟩ (.int .u32 t313)).setCell ⟨gb315, 12, none⟩ (.int .u32 t314)) = w27 at n0_ n1_ n2_ ⊢
        have BK297 := n0_
        have BK315 := n1_
        have HB := n2_
        clear n0_ n1_ n2_
        have n0_ := Aside0.mk (blk_drew BK297.out)
        have n1_ := Aside0.mk (blk_drew BK315.out)
        have n2_ := Aside0.mk (below_drew1 HB.out)
        clear BK297
        clear BK315
        clear HB
        have BK297 := n0_
        have BK315 := n1_
        have HB := n2_
        clear n0_ n1_ n2_
        refine start_ (n := 6) (S := fun w' => w'.cell? ⟨gb315, 0, none⟩ = some (.int .i64 t302) ∧ w'.cell? ⟨gb315, 1, none⟩ = some (.int .i64 t303) ∧ w'.cell? ⟨gb315, 2, none⟩ = some (.int .i64 t304) ∧ w'.cell? ⟨gb315, 3, none⟩ = some (.int .i64 t305) ∧ w'.cell? ⟨gb315, 4, none⟩ = some (.int .i64 t306) ∧ w'.cell? ⟨gb315, 5, none⟩ = some (.int .u32 t307) ∧ w'.cell? ⟨gb315, 6, none⟩ = some (.int .u32 t308) ∧ w'.cell? ⟨gb315, 7, none⟩ = some (.int .u32 t309) ∧ w'.cell? ⟨gb315, 8, none⟩ = some (.int .u32 t310) ∧ w'.cell? ⟨gb315, 9, none⟩ = some (.int .u32 t311) ∧ w'.cell? ⟨gb315, 10, none⟩ = some (.int .u32 t312) ∧ w'.cell? ⟨gb315, 11, none⟩ = some (.int .u32 t313) ∧ w'.cell? ⟨gb315, 12, none⟩ = some (.int .u32 t314)) (ds := []) #[false, false, false, false, false, false] (by kernel_rfl) rfl rfl ⟨(blk_cell BK315.out 0).trans rfl, (blk_cell BK315.out 1).trans rfl, (blk_cell BK315.out 2).trans rfl, (blk_cell BK315.out 3).trans rfl, (blk_cell BK315.out 4).trans rfl, (blk_cell BK315.out 5).trans rfl, (blk_cell BK315.out 6).trans rfl, (blk_cell BK315.out 7).trans rfl, (blk_cell BK315.out 8).trans rfl, (blk_cell BK315.out 9).trans rfl, (blk_cell BK315.out 10).trans rfl, (blk_cell BK315.out 11).trans rfl, (blk_cell BK315.out 12).trans rfl⟩ (fun hHeld => ?_)
        generalize w27.drew = w28 at BK297 BK315 HB hHeld ⊢
        refine pure_ (i := 1) (N := some 31) (v := ?_) (a' := ?_) #[false, true, false, false, false, false] rfl rfl (by kernel_rfl) (fun _ _ _ h => h) (Or.inl ⟨by rfl, ?_⟩) ?_ ?_
        rotate_left
        · intro w'
          go_simp
          with_reducible rfl
        rotate_left
        · simp only [Act.put, List.setIfInBounds_toArray, List.set_cons_zero, List.set_cons_succ, i64_w, i32_w]
          rfl
        refine take_ (i := 0) (N := some 30) (v := ?_) (a' := ?_) #[true, true, false, false, false, false] rfl rfl (by kernel_rfl) (fun _ _ _ h => h) (Or.inl ⟨by rfl, ?_⟩) hHeld ?_ ?_
        rotate_left
        · rintro w' ⟨s0, s1, s2, s3, s4, s5, s6, s7, s8, s9, s10, s11, s12⟩
          go_simp
          with_reducible rfl
        rotate_left
        · simp only [Act.put, List.setIfInBounds_toArray, List.set_cons_zero, List.set_cons_succ, i64_w, i32_w]
          rfl
        refine join_ (σ := Nat) 1 #[true, true, true, true, true, false] (fun s_ => [(32, .agg #[.int .i64 t316, .int .i64 t317, .int .i64 t318, .int .i64 t319, .int .i64 t320, .int .u32 t321, .int .u32 t322, .int .u32 t323, .int .u32 t324, .int .u32 t325, .int .u32 t326, .int .u32 t327, .int .u32 t328]), (33, .agg #[.int .i64 t329, .int .i64 t330, .int .i64 t331, .int .i64 t332, .int .i64 t333, .int .u32 t334, .int .u32 t335, .int .u32 t336, .int .u32 t337, .int .u32 t338, .int .u32 t339, .int .u32 t340, .int .u32 t341]), (8, .pointer (some ⟨s_, 0, none⟩))]) (fun s_ w' => (w'.cell? ⟨gb315, 0, none⟩ = some (.int .i64 t302) ∧ w'.cell? ⟨gb315, 1, none⟩ = some (.int .i64 t303) ∧ w'.cell? ⟨gb315, 2, none⟩ = some (.int .i64 t304) ∧ w'.cell? ⟨gb315, 3, none⟩ = some (.int .i64 t305) ∧ w'.cell? ⟨gb315, 4, none⟩ = some (.int .i64 t306) ∧ w'.cell? ⟨gb315, 5, none⟩ = some (.int .u32 t307) ∧ w'.cell? ⟨gb315, 6, none⟩ = some (.int .u32 t308) ∧ w'.cell? ⟨gb315, 7, none⟩ = some (.int .u32 t309) ∧ w'.cell? ⟨gb315, 8, none⟩ = some (.int .u32 t310) ∧ w'.cell? ⟨gb315, 9, none⟩ = some (.int .u32 t311) ∧ w'.cell? ⟨gb315, 10, none⟩ = some (.int .u32 t312) ∧ w'.cell? ⟨gb315, 11, none⟩ = some (.int .u32 t313) ∧ w'.cell? ⟨gb315, 12, none⟩ = some (.int .u32 t314)) ∧ (w'.heap[gb297]? = some (.cells #[.int .i64 a2_0, .int .i64 a2_1, .bool a2_2, .int .i64 a2_3, .int .i64 a2_4, .slice A2_5 l2_5.length c2_5] 35 (0, 0))) ∧ (w'.heap[gb315]? = some (.cells #[.int .i64 t302, .int .i64 t303, .int .i64 t304, .int .i64 t305, .int .i64 t306, .int .u32 t307, .int .u32 t308, .int .u32 t309, .int .u32 t310, .int .u32 t311, .int .u32 t312, .int .u32 t313, .int .u32 t314] 25 (0, 0))) ∧ (w'.heap[s_]? = some (.cells #[.int .i64 0, .int .i64 0, .int .i64 0, .int .i64 0, .int .i64 0, .int .u32 0, .int .u32 0, .int .u32 0, .int .u32 0, .int .u32 0, .int .u32 0, .int .u32 0, .int .u32 0] 25 (0, 0))) ∧ (w.heap.size ≤ s_) ∧ (w.heap.size ≤ s_) ∧ (gb297 ≠ s_) ∧ (s_ ≠ gb297) ∧ (gb315 ≠ s_) ∧ (s_ ≠ gb315) ∧ (Below w.heap.size w w')) ?_ ?_
        rotate_left
        · intro hCont
          refine two_ (i := 2) (j := 4) (Ni := some 32) (Nj := some 8) #[true, true, true, false, false, false] #[true, true, false, false, true, false] rfl rfl rfl rfl (by kernel_rfl) (by decide) (by decide) (fun K hK => ?_) (fun K hK => ?_)
          · skip
            refine goes_ Try.func24 (by kernel_rfl) rfl #[.slice A1 l1.length c1] (by rfl) rfl rfl (by (try simp only [List.map_toArray, List.map_cons, List.map_nil]); first | done | rfl | (simp only [List.length_drop, List.length_take]; rfl)) ?_
            with_reducible refine (lookoutlaw16_of.calls kj3 _ _ l1 t316 t317 t318 t319 t320 t321 t322 t323 t324 t325 t326 t327 t328 _ ?side1 ?side2 A21.out).mono ?_
            (case side1 => repeat (first | exact (Kd.C_below HR1.out HB.out) | (with_reducible refine Kd.C_alloc ?_ _) | (with_reducible refine Kd.C_drewN ?_ _) | (with_reducible refine Kd.C_drew ?_)))
            (case side2 => exact HC1.out)
            rintro e w29 ⟨rfl, hb⟩
            refine ⟨_, rfl, ?_⟩
            have n0_ := Aside0.mk (blk_below (g := gb297) (o := .cells #[.int .i64 a2_0, .int .i64 a2_1, .bool a2_2, .int .i64 a2_3, .int .i64 a2_4, .slice A2_5 l2_5.length c2_5] 35 (0, 0)) (by (with_reducible repeat (first | refine blk_drewN ?_ _ | refine blk_drew ?_ | refine blk_alloc ?_ _)); exact BK297.out) hb)
            have n1_ := Aside0.mk (blk_below (g := gb315) (o := .cells #[.int .i64 t302, .int .i64 t303, .int .i64 t304, .int .i64 t305, .int .i64 t306, .int .u32 t307, .int .u32 t308, .int .u32 t309, .int .u32 t310, .int .u32 t311, .int .u32 t312, .int .u32 t313, .int .u32 t314] 25 (0, 0)) (by (with_reducible repeat (first | refine blk_drewN ?_ _ | refine blk_drew ?_ | refine blk_alloc ?_ _)); exact BK315.out) hb)
            have n2_ := Aside0.mk (below_step (by repeat (first | (with_reducible first | exact HB.out | apply below_alloc | apply pw_below_drewN | apply below_drew1 | refine below_set ?_ GE297.out | refine below_set ?_ GE315.out) | exact HB.out)) hb)
            clear BK297
            clear BK315
            clear HB
            have BK297 := n0_
            have BK315 := n1_
            have HB := n2_
            clear n0_ n1_ n2_
            (try clear hb)
            (try clear hb2)
            (try clear hk)
            (try clear hi)
            refine hK.out _ _ ⟨(blk_cell BK315.out 0).trans rfl, (blk_cell BK315.out 1).trans rfl, (blk_cell BK315.out 2).trans rfl, (blk_cell BK315.out 3).trans rfl, (blk_cell BK315.out 4).trans rfl, (blk_cell BK315.out 5).trans rfl, (blk_cell BK315.out 6).trans rfl, (blk_cell BK315.out 7).trans rfl, (blk_cell BK315.out 8).trans rfl, (blk_cell BK315.out 9).trans rfl, (blk_cell BK315.out 10).trans rfl, (blk_cell BK315.out 11).trans rfl, (blk_cell BK315.out 12).trans rfl⟩ (fun hHeld => ?_)
            clear hK K
            refine norm_ (a' := ?_) ?_ ?_
            rotate_left
            · show Act.put _ (some 32) _ = _
              simp only [Act.put, List.setIfInBounds_toArray, List.set_cons_zero, List.set_cons_succ, i64_w, i32_w]
              rfl
            refine two_ (i := 3) (j := 4) (Ni := some 33) (Nj := some 8) #[true, true, true, true, false, false] #[true, true, true, false, true, false] rfl rfl rfl rfl (by kernel_rfl) (by decide) (by decide) (fun K hK => ?_) (fun K hK => ?_)
            · skip
              refine goes_ Try.func19 (by kernel_rfl) rfl #[.agg #[.int .i64 t302, .int .i64 t303, .int .i64 t304, .int .i64 t305, .int .i64 t306, .int .u32 t307, .int .u32 t308, .int .u32 t309, .int .u32 t310, .int .u32 t311, .int .u32 t312, .int .u32 t313, .int .u32 t314], .agg #[.int .i64 t316, .int .i64 t317, .int .i64 t318, .int .i64 t319, .int .i64 t320, .int .u32 t321, .int .u32 t322, .int .u32 t323, .int .u32 t324, .int .u32 t325, .int .u32 t326, .int .u32 t327, .int .u32 t328]] (by rfl) rfl rfl (by (try simp only [List.map_toArray, List.map_cons, List.map_nil]); first | done | rfl | (simp only [List.length_drop, List.length_take]; rfl)) ?_
              with_reducible refine (zonemap_Merge.calls t302 t303 t304 t305 t306 t307 t308 t309 t310 t311 t312 t313 t314 t316 t317 t318 t319 t320 t321 t322 t323 t324 t325 t326 t327 t328 t329 t330 t331 t332 t333 t334 t335 t336 t337 t338 t339 t340 t341 _ A22.out).mono ?_
              rintro e w30 ⟨rfl, hb⟩
              refine ⟨_, rfl, ?_⟩
              have n0_ := Aside0.mk (blk_below (g := gb297) (o := .cells #[.int .i64 a2_0, .int .i64 a2_1, .bool a2_2, .int .i64 a2_3, .int .i64 a2_4, .slice A2_5 l2_5.length c2_5] 35 (0, 0)) (by (with_reducible repeat (first | refine blk_drewN ?_ _ | refine blk_drew ?_ | refine blk_alloc ?_ _)); exact BK297.out) hb)
              have n1_ := Aside0.mk (blk_below (g := gb315) (o := .cells #[.int .i64 t302, .int .i64 t303, .int .i64 t304, .int .i64 t305, .int .i64 t306, .int .u32 t307, .int .u32 t308, .int .u32 t309, .int .u32 t310, .int .u32 t311, .int .u32 t312, .int .u32 t313, .int .u32 t314] 25 (0, 0)) (by (with_reducible repeat (first | refine blk_drewN ?_ _ | refine blk_drew ?_ | refine blk_alloc ?_ _)); exact BK315.out) hb)
              have n2_ := Aside0.mk (below_step (by repeat (first | (with_reducible first | exact HB.out | apply below_alloc | apply pw_below_drewN | apply below_drew1 | refine below_set ?_ GE297.out | refine below_set ?_ GE315.out) | exact HB.out)) hb)
              clear BK297
              clear BK315
              clear HB
              have BK297 := n0_
              have BK315 := n1_
              have HB := n2_
              clear n0_ n1_ n2_
              (try clear hb)
              (try clear hb2)
              (try clear hk)
              (try clear hi)
              refine hK.out _ _ ⟨(blk_cell BK315.out 0).trans rfl, (blk_cell BK315.out 1).trans rfl, (blk_cell BK315.out 2).trans rfl, (blk_cell BK315.out 3).trans rfl, (blk_cell BK315.out 4).trans rfl, (blk_cell BK315.out 5).trans rfl, (blk_cell BK315.out 6).trans rfl, (blk_cell BK315.out 7).trans rfl, (blk_cell BK315.out 8).trans rfl, (blk_cell BK315.out 9).trans rfl, (blk_cell BK315.out 10).trans rfl, (blk_cell BK315.out 11).trans rfl, (blk_cell BK315.out 12).trans rfl⟩ (fun hHeld => ?_)
              clear hK K
              refine norm_ (a' := ?_) ?_ ?_
              rotate_left
              · show Act.put _ (some 33) _ = _
                simp only [Act.put, List.setIfInBounds_toArray, List.set_cons_zero, List.set_cons_succ, i64_w, i32_w]
                rfl
              refine one_ (i := 4) (N := some 8) #[true, true, true, true, true, false] rfl rfl (by kernel_rfl) (by decide) (fun K hK => ?_)
              refine box_step ?hg (N := 8) ?hd (cs := #[.int .i64 0, .int .i64 0, .int .i64 0, .int .i64 0, .int .i64 0, .int .u32 0, .int .u32 0, .int .u32 0, .int .u32 0, .int .u32 0, .int .u32 0, .int .u32 0, .int .u32 0]) (t := 25) ?hr ?_; (case hd => rfl); (case hg => rfl); (case hr => first | (go_simp; done) | (go_simp; rfl))
              intro gb342 hg w31 hbox hb
              have n0_ := Aside0.mk (blk_below (g := gb297) (o := .cells #[.int .i64 a2_0, .int .i64 a2_1, .bool a2_2, .int .i64 a2_3, .int .i64 a2_4, .slice A2_5 l2_5.length c2_5] 35 (0, 0)) (by (with_reducible repeat (first | refine blk_drewN ?_ _ | refine blk_drew ?_ | refine blk_alloc ?_ _)); exact BK297.out) hb)
              have n1_ := Aside0.mk (blk_below (g := gb315) (o := .cells #[.int .i64 t302, .int .i64 t303, .int .i64 t304, .int .i64 t305, .int .i64 t306, .int .u32 t307, .int .u32 t308, .int .u32 t309, .int .u32 t310, .int .u32 t311, .int .u32 t312, .int .u32 t313, .int .u32 t314] 25 (0, 0)) (by (with_reducible repeat (first | refine blk_drewN ?_ _ | refine blk_drew ?_ | refine blk_alloc ?_ _)); exact BK315.out) hb)
              have n2_ := Aside0.mk (below_step (by repeat (first | (with_reducible first | exact HB.out | apply below_alloc | apply pw_below_drewN | apply below_drew1 | refine below_set ?_ GE297.out | refine below_set ?_ GE315.out) | exact HB.out)) hb)
              have n3_ := Aside0.mk (hbox)
              have n4_ := Aside0.mk ((by rw [hg]; exact (below_size (by repeat (first | (with_reducible first | exact HB.out | apply below_alloc | apply pw_below_drewN | apply below_drew1 | refine below_set ?_ GE297.out | refine below_set ?_ GE315.out) | exact HB.out))) : w.heap.size ≤ gb342))
              have n5_ := Aside0.mk ((by rw [hg]; exact (below_size (by repeat (first | (with_reducible first | exact HB.out | apply below_alloc | apply pw_below_drewN | apply below_drew1 | refine below_set ?_ GE297.out | refine below_set ?_ GE315.out) | exact HB.out))) : w.heap.size ≤ gb342))
              have n6_ := Aside0.mk ((by rw [hg]; exact Nat.ne_of_lt (blk_lt (g := gb297) (o := .cells #[.int .i64 a2_0, .int .i64 a2_1, .bool a2_2, .int .i64 a2_3, .int .i64 a2_4, .slice A2_5 l2_5.length c2_5] 35 (0, 0)) (by (with_reducible repeat (first | refine blk_drewN ?_ _ | refine blk_drew ?_ | refine blk_alloc ?_ _)); exact BK297.out)) : gb297 ≠ gb342))
              have n7_ := Aside0.mk ((by rw [hg]; exact Nat.ne_of_gt (blk_lt (g := gb297) (o := .cells #[.int .i64 a2_0, .int .i64 a2_1, .bool a2_2, .int .i64 a2_3, .int .i64 a2_4, .slice A2_5 l2_5.length c2_5] 35 (0, 0)) (by (with_reducible repeat (first | refine blk_drewN ?_ _ | refine blk_drew ?_ | refine blk_alloc ?_ _)); exact BK297.out)) : gb342 ≠ gb297))
              have n8_ := Aside0.mk ((by rw [hg]; exact Nat.ne_of_lt (blk_lt (g := gb315) (o := .cells #[.int .i64 t302, .int .i64 t303, .int .i64 t304, .int .i64 t305, .int .i64 t306, .int .u32 t307, .int .u32 t308, .int .u32 t309, .int .u32 t310, .int .u32 t311, .int .u32 t312, .int .u32 t313, .int .u32 t314] 25 (0, 0)) (by (with_reducible repeat (first | refine blk_drewN ?_ _ | refine blk_drew ?_ | refine blk_alloc ?_ _)); exact BK315.out)) : gb315 ≠ gb342))
              have n9_ := Aside0.mk ((by rw [hg]; exact Nat.ne_of_gt (blk_lt (g := gb315) (o := .cells #[.int .i64 t302, .int .i64 t303, .int .i64 t304, .int .i64 t305, .int .i64 t306, .int .u32 t307, .int .u32 t308, .int .u32 t309, .int .u32 t310, .int .u32 t311, .int .u32 t312, .int .u32 t313, .int .u32 t314] 25 (0, 0)) (by (with_reducible repeat (first | refine blk_drewN ?_ _ | refine blk_drew ?_ | refine blk_alloc ?_ _)); exact BK315.out)) : gb342 ≠ gb315))
              clear BK297
              clear BK315
              clear HB
              have BK297 := n0_
              have BK315 := n1_
              have HB := n2_
              have BK342 := n3_
              have GW342 := n4_
              have GE342 := n5_
              have NB297_342 := n6_
              have NB342_297 := n7_
              have NB315_342 := n8_
              have NB342_315 := n9_
              clear n0_ n1_ n2_ n3_ n4_ n5_ n6_ n7_ n8_ n9_
              clear hb hbox hg
              refine hK.out _ _ ⟨(blk_cell BK315.out 0).trans rfl, (blk_cell BK315.out 1).trans rfl, (blk_cell BK315.out 2).trans rfl, (blk_cell BK315.out 3).trans rfl, (blk_cell BK315.out 4).trans rfl, (blk_cell BK315.out 5).trans rfl, (blk_cell BK315.out 6).trans rfl, (blk_cell BK315.out 7).trans rfl, (blk_cell BK315.out 8).trans rfl, (blk_cell BK315.out 9).trans rfl, (blk_cell BK315.out 10).trans rfl, (blk_cell BK315.out 11).trans rfl, (blk_cell BK315.out 12).trans rfl⟩ (fun hHeld => ?_)
              clear hK K
              refine norm_ (a' := ?_) ?_ ?_
              rotate_left
              · show Act.put _ (some 8) _ = _
                simp only [Act.put, List.setIfInBounds_toArray, List.set_cons_zero, List.set_cons_succ, i64_w, i32_w]
                rfl
              exact norm_ (by simp only [putAll, Act.put, List.setIfInBounds_toArray, List.set_cons_zero, List.set_cons_succ]) (hCont (gb342) _ ⟨hHeld, (by (with_reducible repeat (first | refine blk_drewN ?_ _ | refine blk_drew ?_ | refine blk_alloc ?_ _)); exact BK297.out), (by (with_reducible repeat (first | refine blk_drewN ?_ _ | refine blk_drew ?_ | refine blk_alloc ?_ _)); exact BK315.out), (by (with_reducible repeat (first | refine blk_drewN ?_ _ | refine blk_drew ?_ | refine blk_alloc ?_ _)); exact BK342.out), GW342.out, GE342.out, NB297_342.out, NB342_297.out, NB315_342.out, NB342_315.out, (by repeat (first | (with_reducible first | exact HB.out | apply below_alloc | apply pw_below_drewN | apply below_drew1 | refine below_set ?_ GE297.out | refine below_set ?_ GE315.out | refine below_set ?_ GE342.out) | exact HB.out))⟩)
            · skip
              refine box_step ?hg (N := 8) ?hd (cs := #[.int .i64 0, .int .i64 0, .int .i64 0, .int .i64 0, .int .i64 0, .int .u32 0, .int .u32 0, .int .u32 0, .int .u32 0, .int .u32 0, .int .u32 0, .int .u32 0, .int .u32 0]) (t := 25) ?hr ?_; (case hd => rfl); (case hg => rfl); (case hr => first | (go_simp; done) | (go_simp; rfl))
              intro gb342 hg w30 hbox hb
              have n0_ := Aside0.mk (blk_below (g := gb297) (o := .cells #[.int .i64 a2_0, .int .i64 a2_1, .bool a2_2, .int .i64 a2_3, .int .i64 a2_4, .slice A2_5 l2_5.length c2_5] 35 (0, 0)) (by (with_reducible repeat (first | refine blk_drewN ?_ _ | refine blk_drew ?_ | refine blk_alloc ?_ _)); exact BK297.out) hb)
              have n1_ := Aside0.mk (blk_below (g := gb315) (o := .cells #[.int .i64 t302, .int .i64 t303, .int .i64 t304, .int .i64 t305, .int .i64 t306, .int .u32 t307, .int .u32 t308, .int .u32 t309, .int .u32 t310, .int .u32 t311, .int .u32 t312, .int .u32 t313, .int .u32 t314] 25 (0, 0)) (by (with_reducible repeat (first | refine blk_drewN ?_ _ | refine blk_drew ?_ | refine blk_alloc ?_ _)); exact BK315.out) hb)
              have n2_ := Aside0.mk (below_step (by repeat (first | (with_reducible first | exact HB.out | apply below_alloc | apply pw_below_drewN | apply below_drew1 | refine below_set ?_ GE297.out | refine below_set ?_ GE315.out) | exact HB.out)) hb)
              have n3_ := Aside0.mk (hbox)
              have n4_ := Aside0.mk ((by rw [hg]; exact (below_size (by repeat (first | (with_reducible first | exact HB.out | apply below_alloc | apply pw_below_drewN | apply below_drew1 | refine below_set ?_ GE297.out | refine below_set ?_ GE315.out) | exact HB.out))) : w.heap.size ≤ gb342))
              have n5_ := Aside0.mk ((by rw [hg]; exact (below_size (by repeat (first | (with_reducible first | exact HB.out | apply below_alloc | apply pw_below_drewN | apply below_drew1 | refine below_set ?_ GE297.out | refine below_set ?_ GE315.out) | exact HB.out))) : w.heap.size ≤ gb342))
              have n6_ := Aside0.mk ((by rw [hg]; exact Nat.ne_of_lt (blk_lt (g := gb297) (o := .cells #[.int .i64 a2_0, .int .i64 a2_1, .bool a2_2, .int .i64 a2_3, .int .i64 a2_4, .slice A2_5 l2_5.length c2_5] 35 (0, 0)) (by (with_reducible repeat (first | refine blk_drewN ?_ _ | refine blk_drew ?_ | refine blk_alloc ?_ _)); exact BK297.out)) : gb297 ≠ gb342))
              have n7_ := Aside0.mk ((by rw [hg]; exact Nat.ne_of_gt (blk_lt (g := gb297) (o := .cells #[.int .i64 a2_0, .int .i64 a2_1, .bool a2_2, .int .i64 a2_3, .int .i64 a2_4, .slice A2_5 l2_5.length c2_5] 35 (0, 0)) (by (with_reducible repeat (first | refine blk_drewN ?_ _ | refine blk_drew ?_ | refine blk_alloc ?_ _)); exact BK297.out)) : gb342 ≠ gb297))
              have n8_ := Aside0.mk ((by rw [hg]; exact Nat.ne_of_lt (blk_lt (g := gb315) (o := .cells #[.int .i64 t302, .int .i64 t303, .int .i64 t304, .int .i64 t305, .int .i64 t306, .int .u32 t307, .int .u32 t308, .int .u32 t309, .int .u32 t310, .int .u32 t311, .int .u32 t312, .int .u32 t313, .int .u32 t314] 25 (0, 0)) (by (with_reducible repeat (first | refine blk_drewN ?_ _ | refine blk_drew ?_ | refine blk_alloc ?_ _)); exact BK315.out)) : gb315 ≠ gb342))
              have n9_ := Aside0.mk ((by rw [hg]; exact Nat.ne_of_gt (blk_lt (g := gb315) (o := .cells #[.int .i64 t302, .int .i64 t303, .int .i64 t304, .int .i64 t305, .int .i64 t306, .int .u32 t307, .int .u32 t308, .int .u32 t309, .int .u32 t310, .int .u32 t311, .int .u32 t312, .int .u32 t313, .int .u32 t314] 25 (0, 0)) (by (with_reducible repeat (first | refine blk_drewN ?_ _ | refine blk_drew ?_ | refine blk_alloc ?_ _)); exact BK315.out)) : gb342 ≠ gb315))
              clear BK297
              clear BK315
              clear HB
              have BK297 := n0_
              have BK315 := n1_
              have HB := n2_
              have BK342 := n3_
              have GW342 := n4_
              have GE342 := n5_
              have NB297_342 := n6_
              have NB342_297 := n7_
              have NB315_342 := n8_
              have NB342_315 := n9_
              clear n0_ n1_ n2_ n3_ n4_ n5_ n6_ n7_ n8_ n9_
              clear hb hbox hg
              refine hK.out _ _ ⟨(blk_cell BK315.out 0).trans rfl, (blk_cell BK315.out 1).trans rfl, (blk_cell BK315.out 2).trans rfl, (blk_cell BK315.out 3).trans rfl, (blk_cell BK315.out 4).trans rfl, (blk_cell BK315.out 5).trans rfl, (blk_cell BK315.out 6).trans rfl, (blk_cell BK315.out 7).trans rfl, (blk_cell BK315.out 8).trans rfl, (blk_cell BK315.out 9).trans rfl, (blk_cell BK315.out 10).trans rfl, (blk_cell BK315.out 11).trans rfl, (blk_cell BK315.out 12).trans rfl⟩ (fun hHeld => ?_)
              clear hK K
              refine norm_ (a' := ?_) ?_ ?_
              rotate_left
              · show Act.put _ (some 8) _ = _
                simp only [Act.put, List.setIfInBounds_toArray, List.set_cons_zero, List.set_cons_succ, i64_w, i32_w]
                rfl
              refine one_ (i := 3) (N := some 33) #[true, true, true, true, true, false] rfl rfl (by kernel_rfl) (by decide) (fun K hK => ?_)
              refine goes_ Try.func19 (by kernel_rfl) rfl #[.agg #[.int .i64 t302, .int .i64 t303, .int .i64 t304, .int .i64 t305, .int .i64 t306, .int .u32 t307, .int .u32 t308, .int .u32 t309, .int .u32 t310, .int .u32 t311, .int .u32 t312, .int .u32 t313, .int .u32 t314], .agg #[.int .i64 t316, .int .i64 t317, .int .i64 t318, .int .i64 t319, .int .i64 t320, .int .u32 t321, .int .u32 t322, .int .u32 t323, .int .u32 t324, .int .u32 t325, .int .u32 t326, .int .u32 t327, .int .u32 t328]] (by rfl) rfl rfl (by (try simp only [List.map_toArray, List.map_cons, List.map_nil]); first | done | rfl | (simp only [List.length_drop, List.length_take]; rfl)) ?_
              with_reducible refine (zonemap_Merge.calls t302 t303 t304 t305 t306 t307 t308 t309 t310 t311 t312 t313 t314 t316 t317 t318 t319 t320 t321 t322 t323 t324 t325 t326 t327 t328 t329 t330 t331 t332 t333 t334 t335 t336 t337 t338 t339 t340 t341 _ A22.out).mono ?_
              rintro e w31 ⟨rfl, hb⟩
              refine ⟨_, rfl, ?_⟩
              have n0_ := Aside0.mk (blk_below (g := gb297) (o := .cells #[.int .i64 a2_0, .int .i64 a2_1, .bool a2_2, .int .i64 a2_3, .int .i64 a2_4, .slice A2_5 l2_5.length c2_5] 35 (0, 0)) (by (with_reducible repeat (first | refine blk_drewN ?_ _ | refine blk_drew ?_ | refine blk_alloc ?_ _)); exact BK297.out) hb)
              have n1_ := Aside0.mk (blk_below (g := gb315) (o := .cells #[.int .i64 t302, .int .i64 t303, .int .i64 t304, .int .i64 t305, .int .i64 t306, .int .u32 t307, .int .u32 t308, .int .u32 t309, .int .u32 t310, .int .u32 t311, .int .u32 t312, .int .u32 t313, .int .u32 t314] 25 (0, 0)) (by (with_reducible repeat (first | refine blk_drewN ?_ _ | refine blk_drew ?_ | refine blk_alloc ?_ _)); exact BK315.out) hb)
              have n2_ := Aside0.mk (blk_below (g := gb342) (o := .cells #[.int .i64 0, .int .i64 0, .int .i64 0, .int .i64 0, .int .i64 0, .int .u32 0, .int .u32 0, .int .u32 0, .int .u32 0, .int .u32 0, .int .u32 0, .int .u32 0, .int .u32 0] 25 (0, 0)) (by (with_reducible repeat (first | refine blk_drewN ?_ _ | refine blk_drew ?_ | refine blk_alloc ?_ _)); exact BK342.out) hb)
              have n3_ := Aside0.mk (below_step (by repeat (first | (with_reducible first | exact HB.out | apply below_alloc | apply pw_below_drewN | apply below_drew1 | refine below_set ?_ GE297.out | refine below_set ?_ GE315.out | refine below_set ?_ GE342.out) | exact HB.out)) hb)
              clear BK297
              clear BK315
              clear BK342
              clear HB
              have BK297 := n0_
              have BK315 := n1_
              have BK342 := n2_
              have HB := n3_
              clear n0_ n1_ n2_ n3_
              (try clear hb)
              (try clear hb2)
              (try clear hk)
              (try clear hi)
              refine hK.out _ _ ⟨(blk_cell BK315.out 0).trans rfl, (blk_cell BK315.out 1).trans rfl, (blk_cell BK315.out 2).trans rfl, (blk_cell BK315.out 3).trans rfl, (blk_cell BK315.out 4).trans rfl, (blk_cell BK315.out 5).trans rfl, (blk_cell BK315.out 6).trans rfl, (blk_cell BK315.out 7).trans rfl, (blk_cell BK315.out 8).trans rfl, (blk_cell BK315.out 9).trans rfl, (blk_cell BK315.out 10).trans rfl, (blk_cell BK315.out 11).trans rfl, (blk_cell BK315.out 12).trans rfl⟩ (fun hHeld => ?_)
              clear hK K
              refine norm_ (a' := ?_) ?_ ?_
              rotate_left
              · show Act.put _ (some 33) _ = _
                simp only [Act.put, List.setIfInBounds_toArray, List.set_cons_zero, List.set_cons_succ, i64_w, i32_w]
                rfl
              exact norm_ (by simp only [putAll, Act.put, List.setIfInBounds_toArray, List.set_cons_zero, List.set_cons_succ]) (hCont (gb342) _ ⟨hHeld, (by (with_reducible repeat (first | refine blk_drewN ?_ _ | refine blk_drew ?_ | refine blk_alloc ?_ _)); exact BK297.out), (by (with_reducible repeat (first | refine blk_drewN ?_ _ | refine blk_drew ?_ | refine blk_alloc ?_ _)); exact BK315.out), (by (with_reducible repeat (first | refine blk_drewN ?_ _ | refine blk_drew ?_ | refine blk_alloc ?_ _)); exact BK342.out), GW342.out, GE342.out, NB297_342.out, NB342_297.out, NB315_342.out, NB342_315.out, (by repeat (first | (with_reducible first | exact HB.out | apply below_alloc | apply pw_below_drewN | apply below_drew1 | refine below_set ?_ GE297.out | refine below_set ?_ GE315.out | refine below_set ?_ GE342.out) | exact HB.out))⟩)
          · skip
            refine box_step ?hg (N := 8) ?hd (cs := #[.int .i64 0, .int .i64 0, .int .i64 0, .int .i64 0, .int .i64 0, .int .u32 0, .int .u32 0, .int .u32 0, .int .u32 0, .int .u32 0, .int .u32 0, .int .u32 0, .int .u32 0]) (t := 25) ?hr ?_; (case hd => rfl); (case hg => rfl); (case hr => first | (go_simp; done) | (go_simp; rfl))
            intro gb342 hg w29 hbox hb
            have n0_ := Aside0.mk (blk_below (g := gb297) (o := .cells #[.int .i64 a2_0, .int .i64 a2_1, .bool a2_2, .int .i64 a2_3, .int .i64 a2_4, .slice A2_5 l2_5.length c2_5] 35 (0, 0)) (by (with_reducible repeat (first | refine blk_drewN ?_ _ | refine blk_drew ?_ | refine blk_alloc ?_ _)); exact BK297.out) hb)
            have n1_ := Aside0.mk (blk_below (g := gb315) (o := .cells #[.int .i64 t302, .int .i64 t303, .int .i64 t304, .int .i64 t305, .int .i64 t306, .int .u32 t307, .int .u32 t308, .int .u32 t309, .int .u32 t310, .int .u32 t311, .int .u32 t312, .int .u32 t313, .int .u32 t314] 25 (0, 0)) (by (with_reducible repeat (first | refine blk_drewN ?_ _ | refine blk_drew ?_ | refine blk_alloc ?_ _)); exact BK315.out) hb)
            have n2_ := Aside0.mk (below_step (by repeat (first | (with_reducible first | exact HB.out | apply below_alloc | apply pw_below_drewN | apply below_drew1 | refine below_set ?_ GE297.out | refine below_set ?_ GE315.out) | exact HB.out)) hb)
            have n3_ := Aside0.mk (hbox)
            have n4_ := Aside0.mk ((by rw [hg]; exact (below_size (by repeat (first | (with_reducible first | exact HB.out | apply below_alloc | apply pw_below_drewN | apply below_drew1 | refine below_set ?_ GE297.out | refine below_set ?_ GE315.out) | exact HB.out))) : w.heap.size ≤ gb342))
            have n5_ := Aside0.mk ((by rw [hg]; exact (below_size (by repeat (first | (with_reducible first | exact HB.out | apply below_alloc | apply pw_below_drewN | apply below_drew1 | refine below_set ?_ GE297.out | refine below_set ?_ GE315.out) | exact HB.out))) : w.heap.size ≤ gb342))
            have n6_ := Aside0.mk ((by rw [hg]; exact Nat.ne_of_lt (blk_lt (g := gb297) (o := .cells #[.int .i64 a2_0, .int .i64 a2_1, .bool a2_2, .int .i64 a2_3, .int .i64 a2_4, .slice A2_5 l2_5.length c2_5] 35 (0, 0)) (by (with_reducible repeat (first | refine blk_drewN ?_ _ | refine blk_drew ?_ | refine blk_alloc ?_ _)); exact BK297.out)) : gb297 ≠ gb342))
            have n7_ := Aside0.mk ((by rw [hg]; exact Nat.ne_of_gt (blk_lt (g := gb297) (o := .cells #[.int .i64 a2_0, .int .i64 a2_1, .bool a2_2, .int .i64 a2_3, .int .i64 a2_4, .slice A2_5 l2_5.length c2_5] 35 (0, 0)) (by (with_reducible repeat (first | refine blk_drewN ?_ _ | refine blk_drew ?_ | refine blk_alloc ?_ _)); exact BK297.out)) : gb342 ≠ gb297))
            have n8_ := Aside0.mk ((by rw [hg]; exact Nat.ne_of_lt (blk_lt (g := gb315) (o := .cells #[.int .i64 t302, .int .i64 t303, .int .i64 t304, .int .i64 t305, .int .i64 t306, .int .u32 t307, .int .u32 t308, .int .u32 t309, .int .u32 t310, .int .u32 t311, .int .u32 t312, .int .u32 t313, .int .u32 t314] 25 (0, 0)) (by (with_reducible repeat (first | refine blk_drewN ?_ _ | refine blk_drew ?_ | refine blk_alloc ?_ _)); exact BK315.out)) : gb315 ≠ gb342))
            have n9_ := Aside0.mk ((by rw [hg]; exact Nat.ne_of_gt (blk_lt (g := gb315) (o := .cells #[.int .i64 t302, .int .i64 t303, .int .i64 t304, .int .i64 t305, .int .i64 t306, .int .u32 t307, .int .u32 t308, .int .u32 t309, .int .u32 t310, .int .u32 t311, .int .u32 t312, .int .u32 t313, .int .u32 t314] 25 (0, 0)) (by (with_reducible repeat (first | refine blk_drewN ?_ _ | refine blk_drew ?_ | refine blk_alloc ?_ _)); exact BK315.out)) : gb342 ≠ gb315))
            clear BK297
            clear BK315
            clear HB
            have BK297 := n0_
            have BK315 := n1_
            have HB := n2_
            have BK342 := n3_
            have GW342 := n4_
            have GE342 := n5_
            have NB297_342 := n6_
            have NB342_297 := n7_
            have NB315_342 := n8_
            have NB342_315 := n9_
            clear n0_ n1_ n2_ n3_ n4_ n5_ n6_ n7_ n8_ n9_
            clear hb hbox hg
            refine hK.out _ _ ⟨(blk_cell BK315.out 0).trans rfl, (blk_cell BK315.out 1).trans rfl, (blk_cell BK315.out 2).trans rfl, (blk_cell BK315.out 3).trans rfl, (blk_cell BK315.out 4).trans rfl, (blk_cell BK315.out 5).trans rfl, (blk_cell BK315.out 6).trans rfl, (blk_cell BK315.out 7).trans rfl, (blk_cell BK315.out 8).trans rfl, (blk_cell BK315.out 9).trans rfl, (blk_cell BK315.out 10).trans rfl, (blk_cell BK315.out 11).trans rfl, (blk_cell BK315.out 12).trans rfl⟩ (fun hHeld => ?_)
            clear hK K
            refine norm_ (a' := ?_) ?_ ?_
            rotate_left
            · show Act.put _ (some 8) _ = _
              simp only [Act.put, List.setIfInBounds_toArray, List.set_cons_zero, List.set_cons_succ, i64_w, i32_w]
              rfl
            refine one_ (i := 2) (N := some 32) #[true, true, true, false, true, false] rfl rfl (by kernel_rfl) (by decide) (fun K hK => ?_)
            refine goes_ Try.func24 (by kernel_rfl) rfl #[.slice A1 l1.length c1] (by rfl) rfl rfl (by (try simp only [List.map_toArray, List.map_cons, List.map_nil]); first | done | rfl | (simp only [List.length_drop, List.length_take]; rfl)) ?_
            with_reducible refine (lookoutlaw16_of.calls kj3 _ _ l1 t316 t317 t318 t319 t320 t321 t322 t323 t324 t325 t326 t327 t328 _ ?side1 ?side2 A21.out).mono ?_
            (case side1 => repeat (first | exact (Kd.C_below HR1.out HB.out) | (with_reducible refine Kd.C_alloc ?_ _) | (with_reducible refine Kd.C_drewN ?_ _) | (with_reducible refine Kd.C_drew ?_)))
            (case side2 => exact HC1.out)
            rintro e w30 ⟨rfl, hb⟩
            refine ⟨_, rfl, ?_⟩
            have n0_ := Aside0.mk (blk_below (g := gb297) (o := .cells #[.int .i64 a2_0, .int .i64 a2_1, .bool a2_2, .int .i64 a2_3, .int .i64 a2_4, .slice A2_5 l2_5.length c2_5] 35 (0, 0)) (by (with_reducible repeat (first | refine blk_drewN ?_ _ | refine blk_drew ?_ | refine blk_alloc ?_ _)); exact BK297.out) hb)
            have n1_ := Aside0.mk (blk_below (g := gb315) (o := .cells #[.int .i64 t302, .int .i64 t303, .int .i64 t304, .int .i64 t305, .int .i64 t306, .int .u32 t307, .int .u32 t308, .int .u32 t309, .int .u32 t310, .int .u32 t311, .int .u32 t312, .int .u32 t313, .int .u32 t314] 25 (0, 0)) (by (with_reducible repeat (first | refine blk_drewN ?_ _ | refine blk_drew ?_ | refine blk_alloc ?_ _)); exact BK315.out) hb)
            have n2_ := Aside0.mk (blk_below (g := gb342) (o := .cells #[.int .i64 0, .int .i64 0, .int .i64 0, .int .i64 0, .int .i64 0, .int .u32 0, .int .u32 0, .int .u32 0, .int .u32 0, .int .u32 0, .int .u32 0, .int .u32 0, .int .u32 0] 25 (0, 0)) (by (with_reducible repeat (first | refine blk_drewN ?_ _ | refine blk_drew ?_ | refine blk_alloc ?_ _)); exact BK342.out) hb)
            have n3_ := Aside0.mk (below_step (by repeat (first | (with_reducible first | exact HB.out | apply below_alloc | apply pw_below_drewN | apply below_drew1 | refine below_set ?_ GE297.out | refine below_set ?_ GE315.out | refine below_set ?_ GE342.out) | exact HB.out)) hb)
            clear BK297
            clear BK315
            clear BK342
            clear HB
            have BK297 := n0_
            have BK315 := n1_
            have BK342 := n2_
            have HB := n3_
            clear n0_ n1_ n2_ n3_
            (try clear hb)
            (try clear hb2)
            (try clear hk)
            (try clear hi)
            refine hK.out _ _ ⟨(blk_cell BK315.out 0).trans rfl, (blk_cell BK315.out 1).trans rfl, (blk_cell BK315.out 2).trans rfl, (blk_cell BK315.out 3).trans rfl, (blk_cell BK315.out 4).trans rfl, (blk_cell BK315.out 5).trans rfl, (blk_cell BK315.out 6).trans rfl, (blk_cell BK315.out 7).trans rfl, (blk_cell BK315.out 8).trans rfl, (blk_cell BK315.out 9).trans rfl, (blk_cell BK315.out 10).trans rfl, (blk_cell BK315.out 11).trans rfl, (blk_cell BK315.out 12).trans rfl⟩ (fun hHeld => ?_)
            clear hK K
            refine norm_ (a' := ?_) ?_ ?_
            rotate_left
            · show Act.put _ (some 32) _ = _
              simp only [Act.put, List.setIfInBounds_toArray, List.set_cons_zero, List.set_cons_succ, i64_w, i32_w]
              rfl
            refine one_ (i := 3) (N := some 33) #[true, true, true, true, true, false] rfl rfl (by kernel_rfl) (by decide) (fun K hK => ?_)
            refine goes_ Try.func19 (by kernel_rfl) rfl #[.agg #[.int .i64 t302, .int .i64 t303, .int .i64 t304, .int .i64 t305, .int .i64 t306, .int .u32 t307, .int .u32 t308, .int .u32 t309, .int .u32 t310, .int .u32 t311, .int .u32 t312, .int .u32 t313, .int .u32 t314], .agg #[.int .i64 t316, .int .i64 t317, .int .i64 t318, .int .i64 t319, .int .i64 t320, .int .u32 t321, .int .u32 t322, .int .u32 t323, .int .u32 t324, .int .u32 t325, .int .u32 t326, .int .u32 t327, .int .u32 t328]] (by rfl) rfl rfl (by (try simp only [List.map_toArray, List.map_cons, List.map_nil]); first | done | rfl | (simp only [List.length_drop, List.length_take]; rfl)) ?_
            with_reducible refine (zonemap_Merge.calls t302 t303 t304 t305 t306 t307 t308 t309 t310 t311 t312 t313 t314 t316 t317 t318 t319 t320 t321 t322 t323 t324 t325 t326 t327 t328 t329 t330 t331 t332 t333 t334 t335 t336 t337 t338 t339 t340 t341 _ A22.out).mono ?_
            rintro e w31 ⟨rfl, hb⟩
            refine ⟨_, rfl, ?_⟩
            have n0_ := Aside0.mk (blk_below (g := gb297) (o := .cells #[.int .i64 a2_0, .int .i64 a2_1, .bool a2_2, .int .i64 a2_3, .int .i64 a2_4, .slice A2_5 l2_5.length c2_5] 35 (0, 0)) (by (with_reducible repeat (first | refine blk_drewN ?_ _ | refine blk_drew ?_ | refine blk_alloc ?_ _)); exact BK297.out) hb)
            have n1_ := Aside0.mk (blk_below (g := gb315) (o := .cells #[.int .i64 t302, .int .i64 t303, .int .i64 t304, .int .i64 t305, .int .i64 t306, .int .u32 t307, .int .u32 t308, .int .u32 t309, .int .u32 t310, .int .u32 t311, .int .u32 t312, .int .u32 t313, .int .u32 t314] 25 (0, 0)) (by (with_reducible repeat (first | refine blk_drewN ?_ _ | refine blk_drew ?_ | refine blk_alloc ?_ _)); exact BK315.out) hb)
            have n2_ := Aside0.mk (blk_below (g := gb342) (o := .cells #[.int .i64 0, .int .i64 0, .int .i64 0, .int .i64 0, .int .i64 0, .int .u32 0, .int .u32 0, .int .u32 0, .int .u32 0, .int .u32 0, .int .u32 0, .int .u32 0, .int .u32 0] 25 (0, 0)) (by (with_reducible repeat (first | refine blk_drewN ?_ _ | refine blk_drew ?_ | refine blk_alloc ?_ _)); exact BK342.out) hb)
            have n3_ := Aside0.mk (below_step (by repeat (first | (with_reducible first | exact HB.out | apply below_alloc | apply pw_below_drewN | apply below_drew1 | refine below_set ?_ GE297.out | refine below_set ?_ GE315.out | refine below_set ?_ GE342.out) | exact HB.out)) hb)
            clear BK297
            clear BK315
            clear BK342
            clear HB
            have BK297 := n0_
            have BK315 := n1_
            have BK342 := n2_
            have HB := n3_
            clear n0_ n1_ n2_ n3_
            (try clear hb)
            (try clear hb2)
            (try clear hk)
            (try clear hi)
            refine hK.out _ _ ⟨(blk_cell BK315.out 0).trans rfl, (blk_cell BK315.out 1).trans rfl, (blk_cell BK315.out 2).trans rfl, (blk_cell BK315.out 3).trans rfl, (blk_cell BK315.out 4).trans rfl, (blk_cell BK315.out 5).trans rfl, (blk_cell BK315.out 6).trans rfl, (blk_cell BK315.out 7).trans rfl, (blk_cell BK315.out 8).trans rfl, (blk_cell BK315.out 9).trans rfl, (blk_cell BK315.out 10).trans rfl, (blk_cell BK315.out 11).trans rfl, (blk_cell BK315.out 12).trans rfl⟩ (fun hHeld => ?_)
            clear hK K
            refine norm_ (a' := ?_) ?_ ?_
            rotate_left
            · show Act.put _ (some 33) _ = _
              simp only [Act.put, List.setIfInBounds_toArray, List.set_cons_zero, List.set_cons_succ, i64_w, i32_w]
              rfl
            exact norm_ (by simp only [putAll, Act.put, List.setIfInBounds_toArray, List.set_cons_zero, List.set_cons_succ]) (hCont (gb342) _ ⟨hHeld, (by (with_reducible repeat (first | refine blk_drewN ?_ _ | refine blk_drew ?_ | refine blk_alloc ?_ _)); exact BK297.out), (by (with_reducible repeat (first | refine blk_drewN ?_ _ | refine blk_drew ?_ | refine blk_alloc ?_ _)); exact BK315.out), (by (with_reducible repeat (first | refine blk_drewN ?_ _ | refine blk_drew ?_ | refine blk_alloc ?_ _)); exact BK342.out), GW342.out, GE342.out, NB297_342.out, NB342_297.out, NB315_342.out, NB342_315.out, (by repeat (first | (with_reducible first | exact HB.out | apply below_alloc | apply pw_below_drewN | apply below_drew1 | refine below_set ?_ GE297.out | refine below_set ?_ GE315.out | refine below_set ?_ GE342.out) | exact HB.out))⟩)
        rintro gb342 w32 ⟨hS_, h0_, h1_, h2_, h3_, h4_, h5_, h6_, h7_, h8_, h9_⟩
        have n0_ : Aside0 (w32.heap[gb297]? = some (.cells #[.int .i64 a2_0, .int .i64 a2_1, .bool a2_2, .int .i64 a2_3, .int .i64 a2_4, .slice A2_5 l2_5.length c2_5] 35 (0, 0))) := ⟨h0_⟩
        have n1_ : Aside0 (w32.heap[gb315]? = some (.cells #[.int .i64 t302, .int .i64 t303, .int .i64 t304, .int .i64 t305, .int .i64 t306, .int .u32 t307, .int .u32 t308, .int .u32 t309, .int .u32 t310, .int .u32 t311, .int .u32 t312, .int .u32 t313, .int .u32 t314] 25 (0, 0))) := ⟨h1_⟩
        have n2_ : Aside0 (w32.heap[gb342]? = some (.cells #[.int .i64 0, .int .i64 0, .int .i64 0, .int .i64 0, .int .i64 0, .int .u32 0, .int .u32 0, .int .u32 0, .int .u32 0, .int .u32 0, .int .u32 0, .int .u32 0, .int .u32 0] 25 (0, 0))) := ⟨h2_⟩
        have n3_ : Aside0 (w.heap.size ≤ gb342) := ⟨h3_⟩
        have n4_ : Aside0 (w.heap.size ≤ gb342) := ⟨h4_⟩
        have n5_ : Aside0 (gb297 ≠ gb342) := ⟨h5_⟩
        have n6_ : Aside0 (gb342 ≠ gb297) := ⟨h6_⟩
        have n7_ : Aside0 (gb315 ≠ gb342) := ⟨h7_⟩
        have n8_ : Aside0 (gb342 ≠ gb315) := ⟨h8_⟩
        have n9_ : Aside0 (Below w.heap.size w w32) := ⟨h9_⟩
        clear BK297
        clear BK315
        clear HB
        clear h0_ h1_ h2_ h3_ h4_ h5_ h6_ h7_ h8_ h9_
        have BK297 := n0_
        have BK315 := n1_
        have BK342 := n2_
        have GW342 := n3_
        have GE342 := n4_
        have NB297_342 := n5_
        have NB342_297 := n6_
        have NB315_342 := n7_
        have NB342_315 := n8_
        have HB := n9_
        clear n0_ n1_ n2_ n3_ n4_ n5_ n6_ n7_ n8_ n9_
        have hHeld : w32.cell? ⟨gb315, 0, none⟩ = some (.int .i64 t302) ∧ w32.cell? ⟨gb315, 1, none⟩ = some (.int .i64 t303) ∧ w32.cell? ⟨gb315, 2, none⟩ = some (.int .i64 t304) ∧ w32.cell? ⟨gb315, 3, none⟩ = some (.int .i64 t305) ∧ w32.cell? ⟨gb315, 4, none⟩ = some (.int .i64 t306) ∧ w32.cell? ⟨gb315, 5, none⟩ = some (.int .u32 t307) ∧ w32.cell? ⟨gb315, 6, none⟩ = some (.int .u32 t308) ∧ w32.cell? ⟨gb315, 7, none⟩ = some (.int .u32 t309) ∧ w32.cell? ⟨gb315, 8, none⟩ = some (.int .u32 t310) ∧ w32.cell? ⟨gb315, 9, none⟩ = some (.int .u32 t311) ∧ w32.cell? ⟨gb315, 10, none⟩ = some (.int .u32 t312) ∧ w32.cell? ⟨gb315, 11, none⟩ = some (.int .u32 t313) ∧ w32.cell? ⟨gb315, 12, none⟩ = some (.int .u32 t314) := hS_
        refine norm_ (a' := ?_) ?_ ?_
        rotate_left
        · simp only [putAll, Act.put, List.setIfInBounds_toArray, List.set_cons_zero, List.set_cons_succ]
          rfl
        refine one_ (i := 5) (N := none) #[true, true, true, true, true, true] rfl rfl (by kernel_rfl) (by decide) (fun K hK => ?_)
        have hs33 : w32.cell? ⟨gb342, 0, none⟩ = some (.int .i64 0) := (blk_cell BK342.out 0).trans rfl
        have hfs33 := blk_frozen BK342.out 0
        have hns33_0 := NB297_342.out
        have hns33_1 := NB315_342.out
        have hms33_0 := NB342_297.out
        have hms33_1 := NB342_315.out
        have hs34 : w32.cell? ⟨gb342, 1, none⟩ = some (.int .i64 0) := (blk_cell BK342.out 1).trans rfl
        have hfs34 := blk_frozen BK342.out 1
        have hns34_0 := NB297_342.out
        have hns34_1 := NB315_342.out
        have hms34_0 := NB342_297.out
        have hms34_1 := NB342_315.out
        have hs35 : w32.cell? ⟨gb342, 2, none⟩ = some (.int .i64 0) := (blk_cell BK342.out 2).trans rfl
        have hfs35 := blk_frozen BK342.out 2
        have hns35_0 := NB297_342.out
        have hns35_1 := NB315_342.out
        have hms35_0 := NB342_297.out
        have hms35_1 := NB342_315.out
        have hs36 : w32.cell? ⟨gb342, 3, none⟩ = some (.int .i64 0) := (blk_cell BK342.out 3).trans rfl
        have hfs36 := blk_frozen BK342.out 3
        have hns36_0 := NB297_342.out
        have hns36_1 := NB315_342.out
        have hms36_0 := NB342_297.out
        have hms36_1 := NB342_315.out
        have hs37 : w32.cell? ⟨gb342, 4, none⟩ = some (.int .i64 0) := (blk_cell BK342.out 4).trans rfl
        have hfs37 := blk_frozen BK342.out 4
        have hns37_0 := NB297_342.out
        have hns37_1 := NB315_342.out
        have hms37_0 := NB342_297.out
        have hms37_1 := NB342_315.out
        have hs38 : w32.cell? ⟨gb342, 5, none⟩ = some (.int .u32 0) := (blk_cell BK342.out 5).trans rfl
        have hfs38 := blk_frozen BK342.out 5
        have hns38_0 := NB297_342.out
        have hns38_1 := NB315_342.out
        have hms38_0 := NB342_297.out
        have hms38_1 := NB342_315.out
        have hs39 : w32.cell? ⟨gb342, 6, none⟩ = some (.int .u32 0) := (blk_cell BK342.out 6).trans rfl
        have hfs39 := blk_frozen BK342.out 6
        have hns39_0 := NB297_342.out
        have hns39_1 := NB315_342.out
        have hms39_0 := NB342_297.out
        have hms39_1 := NB342_315.out
        have hs40 : w32.cell? ⟨gb342, 7, none⟩ = some (.int .u32 0) := (blk_cell BK342.out 7).trans rfl
        have hfs40 := blk_frozen BK342.out 7
        have hns40_0 := NB297_342.out
        have hns40_1 := NB315_342.out
        have hms40_0 := NB342_297.out
        have hms40_1 := NB342_315.out
        have hs41 : w32.cell? ⟨gb342, 8, none⟩ = some (.int .u32 0) := (blk_cell BK342.out 8).trans rfl
        have hfs41 := blk_frozen BK342.out 8
        have hns41_0 := NB297_342.out
        have hns41_1 := NB315_342.out
        have hms41_0 := NB342_297.out
        have hms41_1 := NB342_315.out
        have hs42 : w32.cell? ⟨gb342, 9, none⟩ = some (.int .u32 0) := (blk_cell BK342.out 9).trans rfl
        have hfs42 := blk_frozen BK342.out 9
        have hns42_0 := NB297_342.out
        have hns42_1 := NB315_342.out
        have hms42_0 := NB342_297.out
        have hms42_1 := NB342_315.out
        have hs43 : w32.cell? ⟨gb342, 10, none⟩ = some (.int .u32 0) := (blk_cell BK342.out 10).trans rfl
        have hfs43 := blk_frozen BK342.out 10
        have hns43_0 := NB297_342.out
        have hns43_1 := NB315_342.out
        have hms43_0 := NB342_297.out
        have hms43_1 := NB342_315.out
        have hs44 : w32.cell? ⟨gb342, 11, none⟩ = some (.int .u32 0) := (blk_cell BK342.out 11).trans rfl
        have hfs44 := blk_frozen BK342.out 11
        have hns44_0 := NB297_342.out
        have hns44_1 := NB315_342.out
        have hms44_0 := NB342_297.out
        have hms44_1 := NB342_315.out
        have hs45 : w32.cell? ⟨gb342, 12, none⟩ = some (.int .u32 0) := (blk_cell BK342.out 12).trans rfl
        have hfs45 := blk_frozen BK342.out 12
        have hns45_0 := NB297_342.out
        have hns45_1 := NB315_342.out
        have hms45_0 := NB342_297.out
        have hms45_1 := NB342_315.out
        refine skip_ (w1 := ?_) (by rfl) rfl ?_ ?_
        rotate_left
        · go_simp
          rfl
        refine hK.out _ _ ⟨((cell_far (p := ⟨gb342, _, none⟩) NB315_342.out _).trans (((cell_far (p := ⟨gb342, _, none⟩) NB315_342.out _).trans (((cell_far (p := ⟨gb342, _, none⟩) NB315_342.out _).trans (((cell_far (p := ⟨gb342, _, none⟩) NB315_342.out _).trans (((cell_far (p := ⟨gb342, _, none⟩) NB315_342.out _).trans (((cell_far (p := ⟨gb342, _, none⟩) NB315_342.out _).trans (((cell_far (p := ⟨gb342, _, none⟩) NB315_342.out _).trans (((cell_far (p := ⟨gb342, _, none⟩) NB315_342.out _).trans (((cell_far (p := ⟨gb342, _, none⟩) NB315_342.out _).trans (((cell_far (p := ⟨gb342, _, none⟩) NB315_342.out _).trans (((cell_far (p := ⟨gb342, _, none⟩) NB315_342.out _).trans (((cell_far (p := ⟨gb342, _, none⟩) NB315_342.out _).trans (((cell_far (p := ⟨gb342, _, none⟩) NB315_342.out _).trans (hHeld.1)))))))))))))))))))))))))), ((cell_far (p := ⟨gb342, _, none⟩) NB315_342.out _).trans (((cell_far (p := ⟨gb342, _, none⟩) NB315_342.out _).trans (((cell_far (p := ⟨gb342, _, none⟩) NB315_342.out _).trans (((cell_far (p := ⟨gb342, _, none⟩) NB315_342.out _).trans (((cell_far (p := ⟨gb342, _, none⟩) NB315_342.out _).trans (((cell_far (p := ⟨gb342, _, none⟩) NB315_342.out _).trans (((cell_far (p := ⟨gb342, _, none⟩) NB315_342.out _).trans (((cell_far (p := ⟨gb342, _, none⟩) NB315_342.out _).trans (((cell_far (p := ⟨gb342, _, none⟩) NB315_342.out _).trans (((cell_far (p := ⟨gb342, _, none⟩) NB315_342.out _).trans (((cell_far (p := ⟨gb342, _, none⟩) NB315_342.out _).trans (((cell_far (p := ⟨gb342, _, none⟩) NB315_342.out _).trans (((cell_far (p := ⟨gb342, _, none⟩) NB315_342.out _).trans (hHeld.2.1)))))))))))))))))))))))))), ((cell_far (p := ⟨gb342, _, none⟩) NB315_342.out _).trans (((cell_far (p := ⟨gb342, _, none⟩) NB315_342.out _).trans (((cell_far (p := ⟨gb342, _, none⟩) NB315_342.out _).trans (((cell_far (p := ⟨gb342, _, none⟩) NB315_342.out _).trans (((cell_far (p := ⟨gb342, _, none⟩) NB315_342.out _).trans (((cell_far (p := ⟨gb342, _, none⟩) NB315_342.out _).trans (((cell_far (p := ⟨gb342, _, none⟩) NB315_342.out _).trans (((cell_far (p := ⟨gb342, _, none⟩) NB315_342.out _).trans (((cell_far (p := ⟨gb342, _, none⟩) NB315_342.out _).trans (((cell_far (p := ⟨gb342, _, none⟩) NB315_342.out _).trans (((cell_far (p := ⟨gb342, _, none⟩) NB315_342.out _).trans (((cell_far (p := ⟨gb342, _, none⟩) NB315_342.out _).trans (((cell_far (p := ⟨gb342, _, none⟩) NB315_342.out _).trans (hHeld.2.2.1)))))))))))))))))))))))))), ((cell_far (p := ⟨gb342, _, none⟩) NB315_342.out _).trans (((cell_far (p := ⟨gb342, _, none⟩) NB315_342.out _).trans (((cell_far (p := ⟨gb342, _, none⟩) NB315_342.out _).trans (((cell_far (p := ⟨gb342, _, none⟩) NB315_342.out _).trans (((cell_far (p := ⟨gb342, _, none⟩) NB315_342.out _).trans (((cell_far (p := ⟨gb342, _, none⟩) NB315_342.out _).trans (((cell_far (p := ⟨gb342, _, none⟩) NB315_342.out _).trans (((cell_far (p := ⟨gb342, _, none⟩) NB315_342.out _).trans (((cell_far (p := ⟨gb342, _, none⟩) NB315_342.out _).trans (((cell_far (p := ⟨gb342, _, none⟩) NB315_342.out _).trans (((cell_far (p := ⟨gb342, _, none⟩) NB315_342.out _).trans (((cell_far (p := ⟨gb342, _, none⟩) NB315_342.out _).trans (((cell_far (p := ⟨gb342, _, none⟩) NB315_342.out _).trans (hHeld.2.2.2.1)))))))))))))))))))))))))), ((cell_far (p := ⟨gb342, _, none⟩) NB315_342.out _).trans (((cell_far (p := ⟨gb342, _, none⟩) NB315_342.out _).trans (((cell_far (p := ⟨gb342, _, none⟩) NB315_342.out _).trans (((cell_far (p := ⟨gb342, _, none⟩) NB315_342.out _).trans (((cell_far (p := ⟨gb342, _, none⟩) NB315_342.out _).trans (((cell_far (p := ⟨gb342, _, none⟩) NB315_342.out _).trans (((cell_far (p := ⟨gb342, _, none⟩) NB315_342.out _).trans (((cell_far (p := ⟨gb342, _, none⟩) NB315_342.out _).trans (((cell_far (p := ⟨gb342, _, none⟩) NB315_342.out _).trans (((cell_far (p := ⟨gb342, _, none⟩) NB315_342.out _).trans (((cell_far (p := ⟨gb342, _, none⟩) NB315_342.out _).trans (((cell_far (p := ⟨gb342, _, none⟩) NB315_342.out _).trans (((cell_far (p := ⟨gb342, _, none⟩) NB315_342.out _).trans (hHeld.2.2.2.2.1)))))))))))))))))))))))))), ((cell_far (p := ⟨gb342, _, none⟩) NB315_342.out _).trans (((cell_far (p := ⟨gb342, _, none⟩) NB315_342.out _).trans (((cell_far (p := ⟨gb342, _, none⟩) NB315_342.out _).trans (((cell_far (p := ⟨gb342, _, none⟩) NB315_342.out _).trans (((cell_far (p := ⟨gb342, _, none⟩) NB315_342.out _).trans (((cell_far (p := ⟨gb342, _, none⟩) NB315_342.out _).trans (((cell_far (p := ⟨gb342, _, none⟩) NB315_342.out _).trans (((cell_far (p := ⟨gb342, _, none⟩) NB315_342.out _).trans (((cell_far (p := ⟨gb342, _, none⟩) NB315_342.out _).trans (((cell_far (p := ⟨gb342, _, none⟩) NB315_342.out _).trans (((cell_far (p := ⟨gb342, _, none⟩) NB315_342.out _).trans (((cell_far (p := ⟨gb342, _, none⟩) NB315_342.out _).trans (((cell_far (p := ⟨gb342, _, none⟩) NB315_342.out _).trans (hHeld.2.2.2.2.2.1)))))))))))))))))))))))))), ((cell_far (p := ⟨gb342, _, none⟩) NB315_342.out _).trans (((cell_far (p := ⟨gb342, _, none⟩) NB315_342.out _).trans (((cell_far (p := ⟨gb342, _, none⟩) NB315_342.out _).trans (((cell_far (p := ⟨gb342, _, none⟩) NB315_342.out _).trans (((cell_far (p := ⟨gb342, _, none⟩) NB315_342.out _).trans (((cell_far (p := ⟨gb342, _, none⟩) NB315_342.out _).trans (((cell_far (p := ⟨gb342, _, none⟩) NB315_342.out _).trans (((cell_far (p := ⟨gb342, _, none⟩) NB315_342.out _).trans (((cell_far (p := ⟨gb342, _, none⟩) NB315_342.out _).trans (((cell_far (p := ⟨gb342, _, none⟩) NB315_342.out _).trans (((cell_far (p := ⟨gb342, _, none⟩) NB315_342.out _).trans (((cell_far (p := ⟨gb342, _, none⟩) NB315_342.out _).trans (((cell_far (p := ⟨gb342, _, none⟩) NB315_342.out _).trans (hHeld.2.2.2.2.2.2.1)))))))))))))))))))))))))), ((cell_far (p := ⟨gb342, _, none⟩) NB315_342.out _).trans (((cell_far (p := ⟨gb342, _, none⟩) NB315_342.out _).trans (((cell_far (p := ⟨gb342, _, none⟩) NB315_342.out _).trans (((cell_far (p := ⟨gb342, _, none⟩) NB315_342.out _).trans (((cell_far (p := ⟨gb342, _, none⟩) NB315_342.out _).trans (((cell_far (p := ⟨gb342, _, none⟩) NB315_342.out _).trans (((cell_far (p := ⟨gb342, _, none⟩) NB315_342.out _).trans (((cell_far (p := ⟨gb342, _, none⟩) NB315_342.out _).trans (((cell_far (p := ⟨gb342, _, none⟩) NB315_342.out _).trans (((cell_far (p := ⟨gb342, _, none⟩) NB315_342.out _).trans (((cell_far (p := ⟨gb342, _, none⟩) NB315_342.out _).trans (((cell_far (p := ⟨gb342, _, none⟩) NB315_342.out _).trans (((cell_far (p := ⟨gb342, _, none⟩) NB315_342.out _).trans (hHeld.2.2.2.2.2.2.2.1)))))))))))))))))))))))))), ((cell_far (p := ⟨gb342, _, none⟩) NB315_342.out _).trans (((cell_far (p := ⟨gb342, _, none⟩) NB315_342.out _).trans (((cell_far (p := ⟨gb342, _, none⟩) NB315_342.out _).trans (((cell_far (p := ⟨gb342, _, none⟩) NB315_342.out _).trans (((cell_far (p := ⟨gb342, _, none⟩) NB315_342.out _).trans (((cell_far (p := ⟨gb342, _, none⟩) NB315_342.out _).trans (((cell_far (p := ⟨gb342, _, none⟩) NB315_342.out _).trans (((cell_far (p := ⟨gb342, _, none⟩) NB315_342.out _).trans (((cell_far (p := ⟨gb342, _, none⟩) NB315_342.out _).trans (((cell_far (p := ⟨gb342, _, none⟩) NB315_342.out _).trans (((cell_far (p := ⟨gb342, _, none⟩) NB315_342.out _).trans (((cell_far (p := ⟨gb342, _, none⟩) NB315_342.out _).trans (((cell_far (p := ⟨gb342, _, none⟩) NB315_342.out _).trans (hHeld.2.2.2.2.2.2.2.2.1)))))))))))))))))))))))))), ((cell_far (p := ⟨gb342, _, none⟩) NB315_342.out _).trans (((cell_far (p := ⟨gb342, _, none⟩) NB315_342.out _).trans (((cell_far (p := ⟨gb342, _, none⟩) NB315_342.out _).trans (((cell_far (p := ⟨gb342, _, none⟩) NB315_342.out _).trans (((cell_far (p := ⟨gb342, _, none⟩) NB315_342.out _).trans (((cell_far (p := ⟨gb342, _, none⟩) NB315_342.out _).trans (((cell_far (p := ⟨gb342, _, none⟩) NB315_342.out _).trans (((cell_far (p := ⟨gb342, _, none⟩) NB315_342.out _).trans (((cell_far (p := ⟨gb342, _, none⟩) NB315_342.out _).trans (((cell_far (p := ⟨gb342, _, none⟩) NB315_342.out _).trans (((cell_far (p := ⟨gb342, _, none⟩) NB315_342.out _).trans (((cell_far (p := ⟨gb342, _, none⟩) NB315_342.out _).trans (((cell_far (p := ⟨gb342, _, none⟩) NB315_342.out _).trans (hHeld.2.2.2.2.2.2.2.2.2.1)))))))))))))))))))))))))), ((cell_far (p := ⟨gb342, _, none⟩) NB315_342.out _).trans (((cell_far (p := ⟨gb342, _, none⟩) NB315_342.out _).trans (((cell_far (p := ⟨gb342, _, none⟩) NB315_342.out _).trans (((cell_far (p := ⟨gb342, _, none⟩) NB315_342.out _).trans (((cell_far (p := ⟨gb342, _, none⟩) NB315_342.out _).trans (((cell_far (p := ⟨gb342, _, none⟩) NB315_342.out _).trans (((cell_far (p := ⟨gb342, _, none⟩) NB315_342.out _).trans (((cell_far (p := ⟨gb342, _, none⟩) NB315_342.out _).trans (((cell_far (p := ⟨gb342, _, none⟩) NB315_342.out _).trans (((cell_far (p := ⟨gb342, _, none⟩) NB315_342.out _).trans (((cell_far (p := ⟨gb342, _, none⟩) NB315_342.out _).trans (((cell_far (p := ⟨gb342, _, none⟩) NB315_342.out _).trans (((cell_far (p := ⟨gb342, _, none⟩) NB315_342.out _).trans (hHeld.2.2.2.2.2.2.2.2.2.2.1)))))))))))))))))))))))))), ((cell_far (p := ⟨gb342, _, none⟩) NB315_342.out _).trans (((cell_far (p := ⟨gb342, _, none⟩) NB315_342.out _).trans (((cell_far (p := ⟨gb342, _, none⟩) NB315_342.out _).trans (((cell_far (p := ⟨gb342, _, none⟩) NB315_342.out _).trans (((cell_far (p := ⟨gb342, _, none⟩) NB315_342.out _).trans (((cell_far (p := ⟨gb342, _, none⟩) NB315_342.out _).trans (((cell_far (p := ⟨gb342, _, none⟩) NB315_342.out _).trans (((cell_far (p := ⟨gb342, _, none⟩) NB315_342.out _).trans (((cell_far (p := ⟨gb342, _, none⟩) NB315_342.out _).trans (((cell_far (p := ⟨gb342, _, none⟩) NB315_342.out _).trans (((cell_far (p := ⟨gb342, _, none⟩) NB315_342.out _).trans (((cell_far (p := ⟨gb342, _, none⟩) NB315_342.out _).trans (((cell_far (p := ⟨gb342, _, none⟩) NB315_342.out _).trans (hHeld.2.2.2.2.2.2.2.2.2.2.2.1)))))))))))))))))))))))))), ((cell_far (p := ⟨gb342, _, none⟩) NB315_342.out _).trans (((cell_far (p := ⟨gb342, _, none⟩) NB315_342.out _).trans (((cell_far (p := ⟨gb342, _, none⟩) NB315_342.out _).trans (((cell_far (p := ⟨gb342, _, none⟩) NB315_342.out _).trans (((cell_far (p := ⟨gb342, _, none⟩) NB315_342.out _).trans (((cell_far (p := ⟨gb342, _, none⟩) NB315_342.out _).trans (((cell_far (p := ⟨gb342, _, none⟩) NB315_342.out _).trans (((cell_far (p := ⟨gb342, _, none⟩) NB315_342.out _).trans (((cell_far (p := ⟨gb342, _, none⟩) NB315_342.out _).trans (((cell_far (p := ⟨gb342, _, none⟩) NB315_342.out _).trans (((cell_far (p := ⟨gb342, _, none⟩) NB315_342.out _).trans (((cell_far (p := ⟨gb342, _, none⟩) NB315_342.out _).trans (((cell_far (p := ⟨gb342, _, none⟩) NB315_342.out _).trans (hHeld.2.2.2.2.2.2.2.2.2.2.2.2))))))))))))))))))))))))))⟩ (fun hHeld => ?_)
        clear hK K
        refine done_ (by kernel_rfl) ?_
        try go_wp2
        go_loopg [36] kj3 (fun kq v36 w' => ∃ (x36_2 : Int), v36 = .int .i64 x36_2 ∧ Aside0 (lookoutlaw16_ZonemapHits.l0 kq l0 l0 (l0.length : Int) x36_2 a2_0 a2_1 a2_2 a2_3 a2_4 l2_5 t302 t303 t304 t305 t306 t307 t308 t309 t310 t311 t312 t313 t314 t329 t330 t331 t332 t333 t334 t335 t336 t337 t338 t339 t340 t341 = some r) ∧ Aside0 (kq ≤ kj3) ∧ Aside0 (w'.heap[gb297]? = some (.cells #[.int .i64 a2_0, .int .i64 a2_1, .bool a2_2, .int .i64 a2_3, .int .i64 a2_4, (.slice A2_5 l2_5.length c2_5)] 35 (0, 0))) ∧ Aside0 (w'.heap[gb315]? = some (.cells #[.int .i64 t302, .int .i64 t303, .int .i64 t304, .int .i64 t305, .int .i64 t306, .int .u32 t307, .int .u32 t308, .int .u32 t309, .int .u32 t310, .int .u32 t311, .int .u32 t312, .int .u32 t313, .int .u32 t314] 25 (0, 0))) ∧ Aside0 (w'.heap[gb342]? = some (.cells #[.int .i64 t329, .int .i64 t330, .int .i64 t331, .int .i64 t332, .int .i64 t333, .int .u32 t334, .int .u32 t335, .int .u32 t336, .int .u32 t337, .int .u32 t338, .int .u32 t339, .int .u32 t340, .int .u32 t341] 25 (0, 0))) ∧ Aside0 (Below w.heap.size w w'))
        case atStart => exact ⟨(0), (by first | rfl | (simp; done) | (simp [*]; done)), H', ⟨Nat.le_refl _⟩, ⟨by (with_reducible repeat (first | refine blk_drewN ?_ _ | refine blk_drew ?_ | refine blk_alloc ?_ _)); refine blk_far ?_ NB297_342.out _; (with_reducible repeat (first | refine blk_drewN ?_ _ | refine blk_drew ?_ | refine blk_alloc ?_ _)); refine blk_far ?_ NB297_342.out _; (with_reducible repeat (first | refine blk_drewN ?_ _ | refine blk_drew ?_ | refine blk_alloc ?_ _)); refine blk_far ?_ NB297_342.out _; (with_reducible repeat (first | refine blk_drewN ?_ _ | refine blk_drew ?_ | refine blk_alloc ?_ _)); refine blk_far ?_ NB297_342.out _; (with_reducible repeat (first | refine blk_drewN ?_ _ | refine blk_drew ?_ | refine blk_alloc ?_ _)); refine blk_far ?_ NB297_342.out _; (with_reducible repeat (first | refine blk_drewN ?_ _ | refine blk_drew ?_ | refine blk_alloc ?_ _)); refine blk_far ?_ NB297_342.out _; (with_reducible repeat (first | refine blk_drewN ?_ _ | refine blk_drew ?_ | refine blk_alloc ?_ _)); refine blk_far ?_ NB297_342.out _; (with_reducible repeat (first | refine blk_drewN ?_ _ | refine blk_drew ?_ | refine blk_alloc ?_ _)); refine blk_far ?_ NB297_342.out _; (with_reducible repeat (first | refine blk_drewN ?_ _ | refine blk_drew ?_ | refine blk_alloc ?_ _)); refine blk_far ?_ NB297_342.out _; (with_reducible repeat (first | refine blk_drewN ?_ _ | refine blk_drew ?_ | refine blk_alloc ?_ _)); refine blk_far ?_ NB297_342.out _; (with_reducible repeat (first | refine blk_drewN ?_ _ | refine blk_drew ?_ | refine blk_alloc ?_ _)); refine blk_far ?_ NB297_342.out _; (with_reducible repeat (first | refine blk_drewN ?_ _ | refine blk_drew ?_ | refine blk_alloc ?_ _)); refine blk_far ?_ NB297_342.out _; (with_reducible repeat (first | refine blk_drewN ?_ _ | refine blk_drew ?_ | refine blk_alloc ?_ _)); refine blk_far ?_ NB297_342.out _; (with_reducible repeat (first | refine blk_drewN ?_ _ | refine blk_drew ?_ | refine blk_alloc ?_ _)); exact BK297.out⟩, ⟨by (with_reducible repeat (first | refine blk_drewN ?_ _ | refine blk_drew ?_ | refine blk_alloc ?_ _)); refine blk_far ?_ NB315_342.out _; (with_reducible repeat (first | refine blk_drewN ?_ _ | refine blk_drew ?_ | refine blk_alloc ?_ _)); refine blk_far ?_ NB315_342.out _; (with_reducible repeat (first | refine blk_drewN ?_ _ | refine blk_drew ?_ | refine blk_alloc ?_ _)); refine blk_far ?_ NB315_342.out _; (with_reducible repeat (first | refine blk_drewN ?_ _ | refine blk_drew ?_ | refine blk_alloc ?_ _)); refine blk_far ?_ NB315_342.out _; (with_reducible repeat (first | refine blk_drewN ?_ _ | refine blk_drew ?_ | refine blk_alloc ?_ _)); refine blk_far ?_ NB315_342.out _; (with_reducible repeat (first | refine blk_drewN ?_ _ | refine blk_drew ?_ | refine blk_alloc ?_ _)); refine blk_far ?_ NB315_342.out _; (with_reducible repeat (first | refine blk_drewN ?_ _ | refine blk_drew ?_ | refine blk_alloc ?_ _)); refine blk_far ?_ NB315_342.out _; (with_reducible repeat (first | refine blk_drewN ?_ _ | refine blk_drew ?_ | refine blk_alloc ?_ _)); refine blk_far ?_ NB315_342.out _; (with_reducible repeat (first | refine blk_drewN ?_ _ | refine blk_drew ?_ | refine blk_alloc ?_ _)); refine blk_far ?_ NB315_342.out _; (with_reducible repeat (first | refine blk_drewN ?_ _ | refine blk_drew ?_ | refine blk_alloc ?_ _)); refine blk_far ?_ NB315_342.out _; (with_reducible repeat (first | refine blk_drewN ?_ _ | refine blk_drew ?_ | refine blk_alloc ?_ _)); refine blk_far ?_ NB315_342.out _; (with_reducible repeat (first | refine blk_drewN ?_ _ | refine blk_drew ?_ | refine blk_alloc ?_ _)); refine blk_far ?_ NB315_342.out _; (with_reducible repeat (first | refine blk_drewN ?_ _ | refine blk_drew ?_ | refine blk_alloc ?_ _)); refine blk_far ?_ NB315_342.out _; (with_reducible repeat (first | refine blk_drewN ?_ _ | refine blk_drew ?_ | refine blk_alloc ?_ _)); exact BK315.out⟩, ⟨by (with_reducible repeat (first | refine blk_drewN ?_ _ | refine blk_drew ?_ | refine blk_alloc ?_ _)); refine blk_put (cs := #[.int .i64 t329, .int .i64 t330, .int .i64 t331, .int .i64 t332, .int .i64 t333, .int .u32 t334, .int .u32 t335, .int .u32 t336, .int .u32 t337, .int .u32 t338, .int .u32 t339, .int .u32 t340, .int .u32 0]) ?_ 12 _ rfl; (with_reducible repeat (first | refine blk_drewN ?_ _ | refine blk_drew ?_ | refine blk_alloc ?_ _)); refine blk_put (cs := #[.int .i64 t329, .int .i64 t330, .int .i64 t331, .int .i64 t332, .int .i64 t333, .int .u32 t334, .int .u32 t335, .int .u32 t336, .int .u32 t337, .int .u32 t338, .int .u32 t339, .int .u32 0, .int .u32 0]) ?_ 11 _ rfl; (with_reducible repeat (first | refine blk_drewN ?_ _ | refine blk_drew ?_ | refine blk_alloc ?_ _)); refine blk_put (cs := #[.int .i64 t329, .int .i64 t330, .int .i64 t331, .int .i64 t332, .int .i64 t333, .int .u32 t334, .int .u32 t335, .int .u32 t336, .int .u32 t337, .int .u32 t338, .int .u32 0, .int .u32 0, .int .u32 0]) ?_ 10 _ rfl; (with_reducible repeat (first | refine blk_drewN ?_ _ | refine blk_drew ?_ | refine blk_alloc ?_ _)); refine blk_put (cs := #[.int .i64 t329, .int .i64 t330, .int .i64 t331, .int .i64 t332, .int .i64 t333, .int .u32 t334, .int .u32 t335, .int .u32 t336, .int .u32 t337, .int .u32 0, .int .u32 0, .int .u32 0, .int .u32 0]) ?_ 9 _ rfl; (with_reducible repeat (first | refine blk_drewN ?_ _ | refine blk_drew ?_ | refine blk_alloc ?_ _)); refine blk_put (cs := #[.int .i64 t329, .int .i64 t330, .int .i64 t331, .int .i64 t332, .int .i64 t333, .int .u32 t334, .int .u32 t335, .int .u32 t336, .int .u32 0, .int .u32 0, .int .u32 0, .int .u32 0, .int .u32 0]) ?_ 8 _ rfl; (with_reducible repeat (first | refine blk_drewN ?_ _ | refine blk_drew ?_ | refine blk_alloc ?_ _)); refine blk_put (cs := #[.int .i64 t329, .int .i64 t330, .int .i64 t331, .int .i64 t332, .int .i64 t333, .int .u32 t334, .int .u32 t335, .int .u32 0, .int .u32 0, .int .u32 0, .int .u32 0, .int .u32 0, .int .u32 0]) ?_ 7 _ rfl; (with_reducible repeat (first | refine blk_drewN ?_ _ | refine blk_drew ?_ | refine blk_alloc ?_ _)); refine blk_put (cs := #[.int .i64 t329, .int .i64 t330, .int .i64 t331, .int .i64 t332, .int .i64 t333, .int .u32 t334, .int .u32 0, .int .u32 0, .int .u32 0, .int .u32 0, .int .u32 0, .int .u32 0, .int .u32 0]) ?_ 6 _ rfl; (with_reducible repeat (first | refine blk_drewN ?_ _ | refine blk_drew ?_ | refine blk_alloc ?_ _)); refine blk_put (cs := #[.int .i64 t329, .int .i64 t330, .int .i64 t331, .int .i64 t332, .int .i64 t333, .int .u32 0, .int .u32 0, .int .u32 0, .int .u32 0, .int .u32 0, .int .u32 0, .int .u32 0, .int .u32 0]) ?_ 5 _ rfl; (with_reducible repeat (first | refine blk_drewN ?_ _ | refine blk_drew ?_ | refine blk_alloc ?_ _)); refine blk_put (cs := #[.int .i64 t329, .int .i64 t330, .int .i64 t331, .int .i64 t332, .int .i64 0, .int .u32 0, .int .u32 0, .int .u32 0, .int .u32 0, .int .u32 0, .int .u32 0, .int .u32 0, .int .u32 0]) ?_ 4 _ rfl; (with_reducible repeat (first | refine blk_drewN ?_ _ | refine blk_drew ?_ | refine blk_alloc ?_ _)); refine blk_put (cs := #[.int .i64 t329, .int .i64 t330, .int .i64 t331, .int .i64 0, .int .i64 0, .int .u32 0, .int .u32 0, .int .u32 0, .int .u32 0, .int .u32 0, .int .u32 0, .int .u32 0, .int .u32 0]) ?_ 3 _ rfl; (with_reducible repeat (first | refine blk_drewN ?_ _ | refine blk_drew ?_ | refine blk_alloc ?_ _)); refine blk_put (cs := #[.int .i64 t329, .int .i64 t330, .int .i64 0, .int .i64 0, .int .i64 0, .int .u32 0, .int .u32 0, .int .u32 0, .int .u32 0, .int .u32 0, .int .u32 0, .int .u32 0, .int .u32 0]) ?_ 2 _ rfl; (with_reducible repeat (first | refine blk_drewN ?_ _ | refine blk_drew ?_ | refine blk_alloc ?_ _)); refine blk_put (cs := #[.int .i64 t329, .int .i64 0, .int .i64 0, .int .i64 0, .int .i64 0, .int .u32 0, .int .u32 0, .int .u32 0, .int .u32 0, .int .u32 0, .int .u32 0, .int .u32 0, .int .u32 0]) ?_ 1 _ rfl; (with_reducible repeat (first | refine blk_drewN ?_ _ | refine blk_drew ?_ | refine blk_alloc ?_ _)); refine blk_put (cs := #[.int .i64 0, .int .i64 0, .int .i64 0, .int .i64 0, .int .i64 0, .int .u32 0, .int .u32 0, .int .u32 0, .int .u32 0, .int .u32 0, .int .u32 0, .int .u32 0, .int .u32 0]) ?_ 0 _ rfl; (with_reducible repeat (first | refine blk_drewN ?_ _ | refine blk_drew ?_ | refine blk_alloc ?_ _)); exact BK342.out⟩, ⟨by repeat (first | (with_reducible first | exact HB.out | apply below_alloc | apply pw_below_drewN | apply below_drew1 | refine below_set ?_ GE297.out | refine below_set ?_ GE315.out | refine below_set ?_ GE342.out) | exact HB.out)⟩⟩
        case round =>
          clear H'
          try clear c1
          try clear c2
          try clear p2
          try clear c7
          try clear c9
          try clear c12
          try clear c17
          try clear c19
          try clear c23
          try clear c24
          try clear c25
          try clear hcz13_0
          try clear hcz13_1
          try clear hcz13_2
          try clear hcz13_3
          try clear hcz13_4
          try clear hcz13_5
          try clear hcz26_0
          try clear hcz26_1
          try clear hcz26_10
          try clear hcz26_11
          try clear hcz26_12
          try clear hcz26_2
          try clear hcz26_3
          try clear hcz26_4
          try clear hcz26_5
          try clear hcz26_6
          try clear hcz26_7
          try clear hcz26_8
          try clear hcz26_9
          try clear hfz13_0
          try clear hfz13_1
          try clear hfz13_2
          try clear hfz13_3
          try clear hfz13_4
          try clear hfz13_5
          try clear hfz26_0
          try clear hfz26_1
          try clear hfz26_10
          try clear hfz26_11
          try clear hfz26_12
          try clear hfz26_2
          try clear hfz26_3
          try clear hfz26_4
          try clear hfz26_5
          try clear hfz26_6
          try clear hfz26_7
          try clear hfz26_8
          try clear hfz26_9
          try clear p2
          obtain ⟨x36_2, rfl, HA, HK2, BK297, BK315, BK342, HB⟩ := hrel
          cases gk with
          | zero => exact absurd HA.out (by simp [lookoutlaw16_ZonemapHits.l0])
          | succ k2 =>
            have H := HA.out
            clear HA
            simp only [lookoutlaw16_ZonemapHits.l0] at H
            by_cases c46 : x36_2 < (l0.length : Int)
            · rw [if_pos c46] at H
              have c46b0 : decide (x36_2 < (l0.length : Int)) = true := decide_eq_true c46
              clear c46
              by_cases c47 : 0 ≤ x36_2
              · rw [if_pos c47] at H
                have c47b0 : decide (0 ≤ x36_2) = true := decide_eq_true c47
                clear c47
                by_cases c48 : x36_2 < (l0.length : Int)
                · rw [if_pos c48] at H
                  have c48b0 : decide (x36_2 < (l0.length : Int)) = true := decide_eq_true c48
                  clear c48
                  have H' := Aside0.mk H
                  clear H
                  have p344 : 0 ≤ (x36_2 : Int) := of_decide_eq_true (by first | (with_reducible assumption) | assumption)
                  have q344 : x36_2 < (l0.length : Int) := of_decide_eq_true (by first | (with_reducible assumption) | assumption)
                  obtain ⟨ad344, A344_2, c344_2, e344, hx344_0, hx344_1, hx344_2, hl344_2, hi344_2⟩ := at_T40 HR0.out x36_2 p344 q344
                  cases e344
                  replace hx344_0 := (HB.out.cell (World.block_lt_of_cell? w _ hx344_0)).trans hx344_0
                  replace hx344_1 := (HB.out.cell (World.block_lt_of_cell? w _ hx344_1)).trans hx344_1
                  replace hx344_2 := (HB.out.cell (World.block_lt_of_cell? w _ hx344_2)).trans hx344_2
                  have HR344_2 := Aside0.mk hi344_2
                  have HC344_2 := Aside0.mk hl344_2
                  clear hi344_2 hl344_2
                  replace p344 := eq_true p344
                  replace q344 := eq_true q344
                  go_wp2_with (first | ((with_reducible refine gate_dst (N := 10) rfl ?_); refine box_event ?hg (N := 10) ?hd (cs := #[.int .i64 0, .int .i64 0, .slice none 0 0]) (t := 40) ?hr ?_; (case hd => rfl); (case hg => rfl); (case hr => first | (go_simp; done) | (go_simp; rfl)); intro gb345 hg w49 hbox hb; have n0_ := Aside0.mk (blk_below (g := gb297) (o := .cells #[.int .i64 a2_0, .int .i64 a2_1, .bool a2_2, .int .i64 a2_3, .int .i64 a2_4, .slice A2_5 l2_5.length c2_5] 35 (0, 0)) (by (with_reducible repeat (first | refine blk_drewN ?_ _ | refine blk_drew ?_ | refine blk_alloc ?_ _)); exact BK297.out) hb); have n1_ := Aside0.mk (blk_below (g := gb315) (o := .cells #[.int .i64 t302, .int .i64 t303, .int .i64 t304, .int .i64 t305, .int .i64 t306, .int .u32 t307, .int .u32 t308, .int .u32 t309, .int .u32 t310, .int .u32 t311, .int .u32 t312, .int .u32 t313, .int .u32 t314] 25 (0, 0)) (by (with_reducible repeat (first | refine blk_drewN ?_ _ | refine blk_drew ?_ | refine blk_alloc ?_ _)); exact BK315.out) hb); have n2_ := Aside0.mk (blk_below (g := gb342) (o := .cells #[.int .i64 t329, .int .i64 t330, .int .i64 t331, .int .i64 t332, .int .i64 t333, .int .u32 t334, .int .u32 t335, .int .u32 t336, .int .u32 t337, .int .u32 t338, .int .u32 t339, .int .u32 t340, .int .u32 t341] 25 (0, 0)) (by (with_reducible repeat (first | refine blk_drewN ?_ _ | refine blk_drew ?_ | refine blk_alloc ?_ _)); exact BK342.out) hb); have n3_ := Aside0.mk (below_step (by repeat (first | (with_reducible first | exact HB.out | apply below_alloc | apply pw_below_drewN | apply below_drew1 | refine below_set ?_ GE297.out | refine below_set ?_ GE315.out | refine below_set ?_ GE342.out) | exact HB.out)) hb); have n4_ := Aside0.mk (hbox); have n5_ := Aside0.mk ((by rw [hg]; exact (below_size (by repeat (first | (with_reducible first | exact HB.out | apply below_alloc | apply pw_below_drewN | apply below_drew1 | refine below_set ?_ GE297.out | refine below_set ?_ GE315.out | refine below_set ?_ GE342.out) | exact HB.out))) : w.heap.size ≤ gb345)); have n6_ := Aside0.mk ((by rw [hg]; exact (below_size (by repeat (first | (with_reducible first | exact HB.out | apply below_alloc | apply pw_below_drewN | apply below_drew1 | refine below_set ?_ GE297.out | refine below_set ?_ GE315.out | refine below_set ?_ GE342.out) | exact HB.out))) : w.heap.size ≤ gb345)); have n7_ := Aside0.mk ((by rw [hg]; exact Nat.ne_of_lt (blk_lt (g := gb297) (o := .cells #[.int .i64 a2_0, .int .i64 a2_1, .bool a2_2, .int .i64 a2_3, .int .i64 a2_4, .slice A2_5 l2_5.length c2_5] 35 (0, 0)) (by (with_reducible repeat (first | refine blk_drewN ?_ _ | refine blk_drew ?_ | refine blk_alloc ?_ _)); exact BK297.out)) : gb297 ≠ gb345)); have n8_ := Aside0.mk ((by rw [hg]; exact Nat.ne_of_gt (blk_lt (g := gb297) (o := .cells #[.int .i64 a2_0, .int .i64 a2_1, .bool a2_2, .int .i64 a2_3, .int .i64 a2_4, .slice A2_5 l2_5.length c2_5] 35 (0, 0)) (by (with_reducible repeat (first | refine blk_drewN ?_ _ | refine blk_drew ?_ | refine blk_alloc ?_ _)); exact BK297.out)) : gb345 ≠ gb297)); have n9_ := Aside0.mk ((by rw [hg]; exact Nat.ne_of_lt (blk_lt (g := gb315) (o := .cells #[.int .i64 t302, .int .i64 t303, .int .i64 t304, .int .i64 t305, .int .i64 t306, .int .u32 t307, .int .u32 t308, .int .u32 t309, .int .u32 t310, .int .u32 t311, .int .u32 t312, .int .u32 t313, .int .u32 t314] 25 (0, 0)) (by (with_reducible repeat (first | refine blk_drewN ?_ _ | refine blk_drew ?_ | refine blk_alloc ?_ _)); exact BK315.out)) : gb315 ≠ gb345)); have n10_ := Aside0.mk ((by rw [hg]; exact Nat.ne_of_gt (blk_lt (g := gb315) (o := .cells #[.int .i64 t302, .int .i64 t303, .int .i64 t304, .int .i64 t305, .int .i64 t306, .int .u32 t307, .int .u32 t308, .int .u32 t309, .int .u32 t310, .int .u32 t311, .int .u32 t312, .int .u32 t313, .int .u32 t314] 25 (0, 0)) (by (with_reducible repeat (first | refine blk_drewN ?_ _ | refine blk_drew ?_ | refine blk_alloc ?_ _)); exact BK315.out)) : gb345 ≠ gb315)); have n11_ := Aside0.mk ((by rw [hg]; exact Nat.ne_of_lt (blk_lt (g := gb342) (o := .cells #[.int .i64 t329, .int .i64 t330, .int .i64 t331, .int .i64 t332, .int .i64 t333, .int .u32 t334, .int .u32 t335, .int .u32 t336, .int .u32 t337, .int .u32 t338, .int .u32 t339, .int .u32 t340, .int .u32 t341] 25 (0, 0)) (by (with_reducible repeat (first | refine blk_drewN ?_ _ | refine blk_drew ?_ | refine blk_alloc ?_ _)); exact BK342.out)) : gb342 ≠ gb345)); have n12_ := Aside0.mk ((by rw [hg]; exact Nat.ne_of_gt (blk_lt (g := gb342) (o := .cells #[.int .i64 t329, .int .i64 t330, .int .i64 t331, .int .i64 t332, .int .i64 t333, .int .u32 t334, .int .u32 t335, .int .u32 t336, .int .u32 t337, .int .u32 t338, .int .u32 t339, .int .u32 t340, .int .u32 t341] 25 (0, 0)) (by (with_reducible repeat (first | refine blk_drewN ?_ _ | refine blk_drew ?_ | refine blk_alloc ?_ _)); exact BK342.out)) : gb345 ≠ gb342)); clear BK297; clear BK315; clear BK342; clear HB; have BK297 := n0_; have BK315 := n1_; have BK342 := n2_; have HB := n3_; have BK345 := n4_; have GW345 := n5_; have GE345 := n6_; have NB297_345 := n7_; have NB345_297 := n8_; have NB315_345 := n9_; have NB345_315 := n10_; have NB342_345 := n11_; have NB345_342 := n12_; clear n0_ n1_ n2_ n3_ n4_ n5_ n6_ n7_ n8_ n9_ n10_ n11_ n12_; clear hb hbox hg; have hnb50 := NB345_297.out; have hnc50 := NB297_345.out; have hnb51 := NB345_315.out; have hnc51 := NB315_345.out; have hnb52 := NB345_342.out; have hnc52 := NB342_345.out; have hcz53_0 : w49.cell? ⟨gb345, 0, none⟩ = some (.int .i64 0) := (blk_cell BK345.out 0).trans rfl; have hcz53_1 : w49.cell? ⟨gb345, 1, none⟩ = some (.int .i64 0) := (blk_cell BK345.out 1).trans rfl; have hcz53_2 : w49.cell? ⟨gb345, 2, none⟩ = some (.slice none 0 0) := (blk_cell BK345.out 2).trans rfl; have hfz53_0 := blk_frozen BK345.out 0; have hfz53_1 := blk_frozen BK345.out 1; have hfz53_2 := blk_frozen BK345.out 2))
                  go_loopg [43] k2 (fun kq v43 w' => ∃ (x43_3 : Int), v43 = .int .i64 x43_3 ∧ Aside0 (lookoutlaw16_ZonemapHits.l1 kq l0 l0 (l0.length : Int) x36_2 ((rd_T40 l0 x36_2).f2) (((rd_T40 l0 x36_2).f2).length : Int) x43_3 a2_0 a2_1 a2_2 a2_3 a2_4 l2_5 t302 t303 t304 t305 t306 t307 t308 t309 t310 t311 t312 t313 t314 t329 t330 t331 t332 t333 t334 t335 t336 t337 t338 t339 t340 t341 ((rd_T40 l0 x36_2).f0) ((rd_T40 l0 x36_2).f1) ((rd_T40 l0 x36_2).f2) = some r) ∧ Aside0 (kq ≤ k2) ∧ Aside0 (w'.heap[gb297]? = some (.cells #[.int .i64 a2_0, .int .i64 a2_1, .bool a2_2, .int .i64 a2_3, .int .i64 a2_4, (.slice A2_5 l2_5.length c2_5)] 35 (0, 0))) ∧ Aside0 (w'.heap[gb315]? = some (.cells #[.int .i64 t302, .int .i64 t303, .int .i64 t304, .int .i64 t305, .int .i64 t306, .int .u32 t307, .int .u32 t308, .int .u32 t309, .int .u32 t310, .int .u32 t311, .int .u32 t312, .int .u32 t313, .int .u32 t314] 25 (0, 0))) ∧ Aside0 (w'.heap[gb342]? = some (.cells #[.int .i64 t329, .int .i64 t330, .int .i64 t331, .int .i64 t332, .int .i64 t333, .int .u32 t334, .int .u32 t335, .int .u32 t336, .int .u32 t337, .int .u32 t338, .int .u32 t339, .int .u32 t340, .int .u32 t341] 25 (0, 0))) ∧ Aside0 (w'.heap[gb345]? = some (.cells #[.int .i64 ((rd_T40 l0 x36_2).f0), .int .i64 ((rd_T40 l0 x36_2).f1), (.slice A344_2 ((rd_T40 l0 x36_2).f2).length c344_2)] 40 (0, 0))) ∧ Aside0 (Below w.heap.size w w'))
                  case atStart => exact ⟨(0), (by first | rfl | (simp; done) | (simp [*]; done)), H', ⟨Nat.le_refl _⟩, ⟨by (with_reducible repeat (first | refine blk_drewN ?_ _ | refine blk_drew ?_ | refine blk_alloc ?_ _)); refine blk_far ?_ NB297_345.out _; (with_reducible repeat (first | refine blk_drewN ?_ _ | refine blk_drew ?_ | refine blk_alloc ?_ _)); refine blk_far ?_ NB297_345.out _; (with_reducible repeat (first | refine blk_drewN ?_ _ | refine blk_drew ?_ | refine blk_alloc ?_ _)); refine blk_far ?_ NB297_345.out _; (with_reducible repeat (first | refine blk_drewN ?_ _ | refine blk_drew ?_ | refine blk_alloc ?_ _)); exact BK297.out⟩, ⟨by (with_reducible repeat (first | refine blk_drewN ?_ _ | refine blk_drew ?_ | refine blk_alloc ?_ _)); refine blk_far ?_ NB315_345.out _; (with_reducible repeat (first | refine blk_drewN ?_ _ | refine blk_drew ?_ | refine blk_alloc ?_ _)); refine blk_far ?_ NB315_345.out _; (with_reducible repeat (first | refine blk_drewN ?_ _ | refine blk_drew ?_ | refine blk_alloc ?_ _)); refine blk_far ?_ NB315_345.out _; (with_reducible repeat (first | refine blk_drewN ?_ _ | refine blk_drew ?_ | refine blk_alloc ?_ _)); exact BK315.out⟩, ⟨by (with_reducible repeat (first | refine blk_drewN ?_ _ | refine blk_drew ?_ | refine blk_alloc ?_ _)); refine blk_far ?_ NB342_345.out _; (with_reducible repeat (first | refine blk_drewN ?_ _ | refine blk_drew ?_ | refine blk_alloc ?_ _)); refine blk_far ?_ NB342_345.out _; (with_reducible repeat (first | refine blk_drewN ?_ _ | refine blk_drew ?_ | refine blk_alloc ?_ _)); refine blk_far ?_ NB342_345.out _; (with_reducible repeat (first | refine blk_drewN ?_ _ | refine blk_drew ?_ | refine blk_alloc ?_ _)); exact BK342.out⟩, ⟨by (with_reducible repeat (first | refine blk_drewN ?_ _ | refine blk_drew ?_ | refine blk_alloc ?_ _)); refine blk_put (cs := #[.int .i64 ((rd_T40 l0 x36_2).f0), .int .i64 ((rd_T40 l0 x36_2).f1), .slice none 0 0]) ?_ 2 _ rfl; (with_reducible repeat (first | refine blk_drewN ?_ _ | refine blk_drew ?_ | refine blk_alloc ?_ _)); refine blk_put (cs := #[.int .i64 ((rd_T40 l0 x36_2).f0), .int .i64 0, .slice none 0 0]) ?_ 1 _ rfl; (with_reducible repeat (first | refine blk_drewN ?_ _ | refine blk_drew ?_ | refine blk_alloc ?_ _)); refine blk_put (cs := #[.int .i64 0, .int .i64 0, .slice none 0 0]) ?_ 0 _ rfl; (with_reducible repeat (first | refine blk_drewN ?_ _ | refine blk_drew ?_ | refine blk_alloc ?_ _)); exact BK345.out⟩, ⟨by repeat (first | (with_reducible first | exact HB.out | apply below_alloc | apply pw_below_drewN | apply below_drew1 | refine below_set ?_ GE297.out | refine below_set ?_ GE315.out | refine below_set ?_ GE342.out | refine below_set ?_ GE345.out) | exact HB.out)⟩⟩
                  case round =>
                    clear H'
                    try clear c1
                    try clear c2
                    try clear p2
                    try clear c3
                    try clear p3
                    try clear q3
                    try clear hx3
                    try clear c4
                    try clear c5
                    try clear c7
                    try clear c9
                    try clear c12
                    try clear c17
                    try clear c19
                    try clear c23
                    try clear c24
                    try clear c25
                    try clear c34
                    try clear p34
                    try clear q34
                    try clear hx34
                    try clear c46
                    try clear c46b0
                    try clear c47
                    try clear c47b0
                    try clear c48
                    try clear c48b0
                    try clear c50
                    try clear c51
                    try clear c52
                    try clear hcz13_0
                    try clear hcz13_1
                    try clear hcz13_2
                    try clear hcz13_3
                    try clear hcz13_4
                    try clear hcz13_5
                    try clear hcz26_0
                    try clear hcz26_1
                    try clear hcz26_10
                    try clear hcz26_11
                    try clear hcz26_12
                    try clear hcz26_2
                    try clear hcz26_3
                    try clear hcz26_4
                    try clear hcz26_5
                    try clear hcz26_6
                    try clear hcz26_7
                    try clear hcz26_8
                    try clear hcz26_9
                    try clear hcz53_0
                    try clear hcz53_1
                    try clear hcz53_2
                    try clear hfz13_0
                    try clear hfz13_1
                    try clear hfz13_2
                    try clear hfz13_3
                    try clear hfz13_4
                    try clear hfz13_5
                    try clear hfz26_0
                    try clear hfz26_1
                    try clear hfz26_10
                    try clear hfz26_11
                    try clear hfz26_12
                    try clear hfz26_2
                    try clear hfz26_3
                    try clear hfz26_4
                    try clear hfz26_5
                    try clear hfz26_6
                    try clear hfz26_7
                    try clear hfz26_8
                    try clear hfz26_9
                    try clear hfz53_0
                    try clear hfz53_1
                    try clear hfz53_2
                    try clear hx344_0
                    try clear hx344_1
                    try clear hx344_2
                    try clear p2
                    try clear p344
                    try clear q344
                    obtain ⟨x43_3, rfl, HA, HK3, BK297, BK315, BK342, BK345, HB⟩ := hrel
                    cases gk with
                    | zero => exact absurd HA.out (by simp [lookoutlaw16_ZonemapHits.l1])
                    | succ k3 =>
                      have H := HA.out
                      clear HA
                      simp only [lookoutlaw16_ZonemapHits.l1] at H
                      by_cases c54 : x43_3 < (((rd_T40 l0 x36_2).f2).length : Int)
                      · rw [if_pos c54] at H
                        have c54b0 : decide (x43_3 < (((rd_T40 l0 x36_2).f2).length : Int)) = true := decide_eq_true c54
                        clear c54
                        by_cases c55 : 0 ≤ x43_3
                        · rw [if_pos c55] at H
                          have c55b0 : decide (0 ≤ x43_3) = true := decide_eq_true c55
                          clear c55
                          by_cases c56 : x43_3 < (((rd_T40 l0 x36_2).f2).length : Int)
                          · rw [if_pos c56] at H
                            have c56b0 : decide (x43_3 < (((rd_T40 l0 x36_2).f2).length : Int)) = true := decide_eq_true c56
                            clear c56
                            replace H := Option.bind_eq_some_iff.mp H
                            obtain ⟨t347, A570, H⟩ := H
                            replace H : (if t347 = true then (lookoutlaw16_ZonemapHits.l1 k3 l0 l0 (l0.length : Int) x36_2 ((rd_T40 l0 x36_2).f2) (((rd_T40 l0 x36_2).f2).length : Int) (wrap64 (x43_3 + 1)) a2_0 a2_1 a2_2 a2_3 a2_4 l2_5 t302 t303 t304 t305 t306 t307 t308 t309 t310 t311 t312 t313 t314 t329 t330 t331 t332 t333 t334 t335 t336 t337 t338 t339 t340 t341 ((rd_T40 l0 x36_2).f0) ((rd_T40 l0 x36_2).f1) ((rd_T40 l0 x36_2).f2)) else (none)) = some r := H
                            have A57 := Aside0.mk A570
                            clear A570
                            by_cases c58 : t347 = true
                            · subst c58
                              have H1 : (lookoutlaw16_ZonemapHits.l1 k3 l0 l0 (l0.length : Int) x36_2 ((rd_T40 l0 x36_2).f2) (((rd_T40 l0 x36_2).f2).length : Int) (wrap64 (x43_3 + 1)) a2_0 a2_1 a2_2 a2_3 a2_4 l2_5 t302 t303 t304 t305 t306 t307 t308 t309 t310 t311 t312 t313 t314 t329 t330 t331 t332 t333 t334 t335 t336 t337 t338 t339 t340 t341 ((rd_T40 l0 x36_2).f0) ((rd_T40 l0 x36_2).f1) ((rd_T40 l0 x36_2).f2)) = some r := by rw [if_pos rfl] at H; exact H
                              clear H
                              have H := H1
                              clear H1
                              have H' := Aside0.mk H
                              clear H
                              have p346 : 0 ≤ (x43_3 : Int) := of_decide_eq_true (by first | (with_reducible assumption) | assumption)
                              have q346 : x43_3 < (((rd_T40 l0 x36_2).f2).length : Int) := of_decide_eq_true (by first | (with_reducible assumption) | assumption)
                              obtain ⟨ad346, e346, hx346_0⟩ := Kd.at_string HR344_2.out x43_3 p346 q346
                              cases e346
                              replace hx346_0 := (HB.out.cell (World.block_lt_of_cell? w _ hx346_0)).trans hx346_0
                              replace p346 := eq_true p346
                              replace q346 := eq_true q346
                              have hnb59 := NB315_297.out
                              have hnc59 := NB297_315.out
                              have hnb60 := NB315_342.out
                              have hnc60 := NB342_315.out
                              have hnb61 := NB315_345.out
                              have hnc61 := NB345_315.out
                              have hcz62_0 : wr.cell? ⟨gb315, 0, none⟩ = some (.int .i64 t302) := (blk_cell BK315.out 0).trans rfl
                              have hcz62_1 : wr.cell? ⟨gb315, 1, none⟩ = some (.int .i64 t303) := (blk_cell BK315.out 1).trans rfl
                              have hcz62_2 : wr.cell? ⟨gb315, 2, none⟩ = some (.int .i64 t304) := (blk_cell BK315.out 2).trans rfl
                              have hcz62_3 : wr.cell? ⟨gb315, 3, none⟩ = some (.int .i64 t305) := (blk_cell BK315.out 3).trans rfl
                              have hcz62_4 : wr.cell? ⟨gb315, 4, none⟩ = some (.int .i64 t306) := (blk_cell BK315.out 4).trans rfl
                              have hcz62_5 : wr.cell? ⟨gb315, 5, none⟩ = some (.int .u32 t307) := (blk_cell BK315.out 5).trans rfl
                              have hcz62_6 : wr.cell? ⟨gb315, 6, none⟩ = some (.int .u32 t308) := (blk_cell BK315.out 6).trans rfl
                              have hcz62_7 : wr.cell? ⟨gb315, 7, none⟩ = some (.int .u32 t309) := (blk_cell BK315.out 7).trans rfl
                              have hcz62_8 : wr.cell? ⟨gb315, 8, none⟩ = some (.int .u32 t310) := (blk_cell BK315.out 8).trans rfl
                              have hcz62_9 : wr.cell? ⟨gb315, 9, none⟩ = some (.int .u32 t311) := (blk_cell BK315.out 9).trans rfl
                              have hcz62_10 : wr.cell? ⟨gb315, 10, none⟩ = some (.int .u32 t312) := (blk_cell BK315.out 10).trans rfl
                              have hcz62_11 : wr.cell? ⟨gb315, 11, none⟩ = some (.int .u32 t313) := (blk_cell BK315.out 11).trans rfl
                              have hcz62_12 : wr.cell? ⟨gb315, 12, none⟩ = some (.int .u32 t314) := (blk_cell BK315.out 12).trans rfl
                              have hfz62_0 := blk_frozen BK315.out 0
                              have hfz62_1 := blk_frozen BK315.out 1
                              have hfz62_2 := blk_frozen BK315.out 2
                              have hfz62_3 := blk_frozen BK315.out 3
                              have hfz62_4 := blk_frozen BK315.out 4
                              have hfz62_5 := blk_frozen BK315.out 5
                              have hfz62_6 := blk_frozen BK315.out 6
                              have hfz62_7 := blk_frozen BK315.out 7
                              have hfz62_8 := blk_frozen BK315.out 8
                              have hfz62_9 := blk_frozen BK315.out 9
                              have hfz62_10 := blk_frozen BK315.out 10
                              have hfz62_11 := blk_frozen BK315.out 11
                              have hfz62_12 := blk_frozen BK315.out 12
                              go_wp2_with (first | ((with_reducible refine gate_callee (f := 17) rfl ?_); refine goesL_ (some 49) rfl rfl Try.func17 (by kernel_rfl) rfl #[.agg #[.int .i64 t302, .int .i64 t303, .int .i64 t304, .int .i64 t305, .int .i64 t306, .int .u32 t307, .int .u32 t308, .int .u32 t309, .int .u32 t310, .int .u32 t311, .int .u32 t312, .int .u32 t313, .int .u32 t314], .string (rdOf ByteArray.empty ((rd_T40 l0 x36_2).f2) x43_3)] rfl (by (try simp only [List.map_toArray, List.map_cons, List.map_nil]); first | done | rfl | (simp only [List.length_drop, List.length_take]; rfl)) ?_; (with_reducible refine (zonemap_Has.calls t302 t303 t304 t305 t306 t307 t308 t309 t310 t311 t312 t313 t314 (rdOf ByteArray.empty ((rd_T40 l0 x36_2).f2) x43_3) true _ A57.out).mono ?_); rintro e w63 ⟨rfl, hb⟩; refine ⟨_, rfl, ?_⟩; have n0_ := Aside0.mk (blk_below (g := gb297) (o := .cells #[.int .i64 a2_0, .int .i64 a2_1, .bool a2_2, .int .i64 a2_3, .int .i64 a2_4, .slice A2_5 l2_5.length c2_5] 35 (0, 0)) (by (with_reducible repeat (first | refine blk_drewN ?_ _ | refine blk_drew ?_ | refine blk_alloc ?_ _)); exact BK297.out) hb); have n1_ := Aside0.mk (blk_below (g := gb315) (o := .cells #[.int .i64 t302, .int .i64 t303, .int .i64 t304, .int .i64 t305, .int .i64 t306, .int .u32 t307, .int .u32 t308, .int .u32 t309, .int .u32 t310, .int .u32 t311, .int .u32 t312, .int .u32 t313, .int .u32 t314] 25 (0, 0)) (by (with_reducible repeat (first | refine blk_drewN ?_ _ | refine blk_drew ?_ | refine blk_alloc ?_ _)); exact BK315.out) hb); have n2_ := Aside0.mk (blk_below (g := gb342) (o := .cells #[.int .i64 t329, .int .i64 t330, .int .i64 t331, .int .i64 t332, .int .i64 t333, .int .u32 t334, .int .u32 t335, .int .u32 t336, .int .u32 t337, .int .u32 t338, .int .u32 t339, .int .u32 t340, .int .u32 t341] 25 (0, 0)) (by (with_reducible repeat (first | refine blk_drewN ?_ _ | refine blk_drew ?_ | refine blk_alloc ?_ _)); exact BK342.out) hb); have n3_ := Aside0.mk (blk_below (g := gb345) (o := .cells #[.int .i64 ((rd_T40 l0 x36_2).f0), .int .i64 ((rd_T40 l0 x36_2).f1), .slice (some ad346) ((rd_T40 l0 x36_2).f2).length c344_2] 40 (0, 0)) (by (with_reducible repeat (first | refine blk_drewN ?_ _ | refine blk_drew ?_ | refine blk_alloc ?_ _)); exact BK345.out) hb); have n4_ := Aside0.mk (below_step (by repeat (first | (with_reducible first | exact HB.out | apply below_alloc | apply pw_below_drewN | apply below_drew1 | refine below_set ?_ GE297.out | refine below_set ?_ GE315.out | refine below_set ?_ GE342.out | refine below_set ?_ GE345.out) | exact HB.out)) hb); clear BK297; clear BK315; clear BK342; clear BK345; clear HB; have BK297 := n0_; have BK315 := n1_; have BK342 := n2_; have BK345 := n3_; have HB := n4_; clear n0_ n1_ n2_ n3_ n4_; (try clear hb); (try clear hb2); (try clear hk); (try clear hi)))
                              go_roundg k3
                              case measure => have := HJ3.out; have := HK2.out; have := HK3.out; omega
                              case rel => exact ⟨(wrap64 (x43_3 + 1)), (by first | rfl | (simp; done) | (simp [*]; done)), H', ⟨by have := HJ3.out; have := HK2.out; have := HK3.out; omega⟩, ⟨by (with_reducible repeat (first | refine blk_drewN ?_ _ | refine blk_drew ?_ | refine blk_alloc ?_ _)); exact BK297.out⟩, ⟨by (with_reducible repeat (first | refine blk_drewN ?_ _ | refine blk_drew ?_ | refine blk_alloc ?_ _)); exact BK315.out⟩, ⟨by (with_reducible repeat (first | refine blk_drewN ?_ _ | refine blk_drew ?_ | refine blk_alloc ?_ _)); exact BK342.out⟩, ⟨by (with_reducible repeat (first | refine blk_drewN ?_ _ | refine blk_drew ?_ | refine blk_alloc ?_ _)); exact BK345.out⟩, ⟨by repeat (first | (with_reducible first | exact HB.out | apply below_alloc | apply pw_below_drewN | apply below_drew1 | refine below_set ?_ GE297.out | refine below_set ?_ GE315.out | refine below_set ?_ GE342.out | refine below_set ?_ GE345.out) | exact HB.out)⟩⟩
                            · replace c58 := Bool.eq_false_iff.mpr c58
                              subst c58
                              have H1 : (none) = some r := by rw [if_neg (show ¬ (false = true) by decide)] at H; exact H
                              clear H
                              have H := H1
                              clear H1
                              exact absurd H (by simp)
                          · rw [if_neg c56] at H
                            exact absurd H (by simp)
                        · rw [if_neg c55] at H
                          exact absurd H (by simp)
                      · rw [if_neg c54] at H
                        have c54b0 : decide (x43_3 < (((rd_T40 l0 x36_2).f2).length : Int)) = false := decide_eq_false c54
                        clear c54
                        replace H := Option.bind_eq_some_iff.mp H
                        obtain ⟨t348, A640, H⟩ := H
                        replace H : (if t348 = true then ((zonemap_May.f k3 t302 t303 t304 t305 t306 t307 t308 t309 t310 t311 t312 t313 t314 a2_0 a2_1 a2_2 a2_3 a2_4 l2_5).bind fun t349 => (if t349 = true then ((zonemap_May.f k3 t329 t330 t331 t332 t333 t334 t335 t336 t337 t338 t339 t340 t341 a2_0 a2_1 a2_2 a2_3 a2_4 l2_5).bind fun t350 => (if t350 = true then (lookoutlaw16_ZonemapHits.l0 k3 l0 l0 (l0.length : Int) (wrap64 (x36_2 + 1)) a2_0 a2_1 a2_2 a2_3 a2_4 l2_5 t302 t303 t304 t305 t306 t307 t308 t309 t310 t311 t312 t313 t314 t329 t330 t331 t332 t333 t334 t335 t336 t337 t338 t339 t340 t341) else (none))) else (none))) else (lookoutlaw16_ZonemapHits.l0 k3 l0 l0 (l0.length : Int) (wrap64 (x36_2 + 1)) a2_0 a2_1 a2_2 a2_3 a2_4 l2_5 t302 t303 t304 t305 t306 t307 t308 t309 t310 t311 t312 t313 t314 t329 t330 t331 t332 t333 t334 t335 t336 t337 t338 t339 t340 t341)) = some r := H
                        have A64 := Aside0.mk A640
                        clear A640
                        by_cases c65 : t348 = true
                        · subst c65
                          have H1 : ((zonemap_May.f k3 t302 t303 t304 t305 t306 t307 t308 t309 t310 t311 t312 t313 t314 a2_0 a2_1 a2_2 a2_3 a2_4 l2_5).bind fun t349 => (if t349 = true then ((zonemap_May.f k3 t329 t330 t331 t332 t333 t334 t335 t336 t337 t338 t339 t340 t341 a2_0 a2_1 a2_2 a2_3 a2_4 l2_5).bind fun t350 => (if t350 = true then (lookoutlaw16_ZonemapHits.l0 k3 l0 l0 (l0.length : Int) (wrap64 (x36_2 + 1)) a2_0 a2_1 a2_2 a2_3 a2_4 l2_5 t302 t303 t304 t305 t306 t307 t308 t309 t310 t311 t312 t313 t314 t329 t330 t331 t332 t333 t334 t335 t336 t337 t338 t339 t340 t341) else (none))) else (none))) = some r := by rw [if_pos rfl] at H; exact H
                          clear H
                          have H := H1
                          clear H1
                          replace H := Option.bind_eq_some_iff.mp H
                          obtain ⟨t349, A660, H⟩ := H
                          replace H : (if t349 = true then ((zonemap_May.f k3 t329 t330 t331 t332 t333 t334 t335 t336 t337 t338 t339 t340 t341 a2_0 a2_1 a2_2 a2_3 a2_4 l2_5).bind fun t350 => (if t350 = true then (lookoutlaw16_ZonemapHits.l0 k3 l0 l0 (l0.length : Int) (wrap64 (x36_2 + 1)) a2_0 a2_1 a2_2 a2_3 a2_4 l2_5 t302 t303 t304 t305 t306 t307 t308 t309 t310 t311 t312 t313 t314 t329 t330 t331 t332 t333 t334 t335 t336 t337 t338 t339 t340 t341) else (none))) else (none)) = some r := H
                          have A66 := Aside0.mk A660
                          clear A660
                          by_cases c67 : t349 = true
                          · subst c67
                            have H1 : ((zonemap_May.f k3 t329 t330 t331 t332 t333 t334 t335 t336 t337 t338 t339 t340 t341 a2_0 a2_1 a2_2 a2_3 a2_4 l2_5).bind fun t350 => (if t350 = true then (lookoutlaw16_ZonemapHits.l0 k3 l0 l0 (l0.length : Int) (wrap64 (x36_2 + 1)) a2_0 a2_1 a2_2 a2_3 a2_4 l2_5 t302 t303 t304 t305 t306 t307 t308 t309 t310 t311 t312 t313 t314 t329 t330 t331 t332 t333 t334 t335 t336 t337 t338 t339 t340 t341) else (none))) = some r := by rw [if_pos rfl] at H; exact H
                            clear H
                            have H := H1
                            clear H1
                            replace H := Option.bind_eq_some_iff.mp H
                            obtain ⟨t350, A680, H⟩ := H
                            replace H : (if t350 = true then (lookoutlaw16_ZonemapHits.l0 k3 l0 l0 (l0.length : Int) (wrap64 (x36_2 + 1)) a2_0 a2_1 a2_2 a2_3 a2_4 l2_5 t302 t303 t304 t305 t306 t307 t308 t309 t310 t311 t312 t313 t314 t329 t330 t331 t332 t333 t334 t335 t336 t337 t338 t339 t340 t341) else (none)) = some r := H
                            have A68 := Aside0.mk A680
                            clear A680
                            by_cases c69 : t350 = true
                            · subst c69
                              have H1 : (lookoutlaw16_ZonemapHits.l0 k3 l0 l0 (l0.length : Int) (wrap64 (x36_2 + 1)) a2_0 a2_1 a2_2 a2_3 a2_4 l2_5 t302 t303 t304 t305 t306 t307 t308 t309 t310 t311 t312 t313 t314 t329 t330 t331 t332 t333 t334 t335 t336 t337 t338 t339 t340 t341) = some r := by rw [if_pos rfl] at H; exact H
                              clear H
                              have H := H1
                              clear H1
                              have H' := Aside0.mk H
                              clear H
                              have hnb70 := NB345_297.out
                              have hnc70 := NB297_345.out
                              have hnb71 := NB345_315.out
                              have hnc71 := NB315_345.out
                              have hnb72 := NB345_342.out
                              have hnc72 := NB342_345.out
                              have hcz73_0 : wr.cell? ⟨gb345, 0, none⟩ = some (.int .i64 ((rd_T40 l0 x36_2).f0)) := (blk_cell BK345.out 0).trans rfl
                              have hcz73_1 : wr.cell? ⟨gb345, 1, none⟩ = some (.int .i64 ((rd_T40 l0 x36_2).f1)) := (blk_cell BK345.out 1).trans rfl
                              have hcz73_2 : wr.cell? ⟨gb345, 2, none⟩ = some (.slice A344_2 ((rd_T40 l0 x36_2).f2).length c344_2) := (blk_cell BK345.out 2).trans rfl
                              have hfz73_0 := blk_frozen BK345.out 0
                              have hfz73_1 := blk_frozen BK345.out 1
                              have hfz73_2 := blk_frozen BK345.out 2
                              have hnb74 := NB297_315.out
                              have hnc74 := NB315_297.out
                              have hnb75 := NB297_342.out
                              have hnc75 := NB342_297.out
                              have hcz76_0 : wr.cell? ⟨gb297, 0, none⟩ = some (.int .i64 a2_0) := (blk_cell BK297.out 0).trans rfl
                              have hcz76_1 : wr.cell? ⟨gb297, 1, none⟩ = some (.int .i64 a2_1) := (blk_cell BK297.out 1).trans rfl
                              have hcz76_2 : wr.cell? ⟨gb297, 2, none⟩ = some (.bool a2_2) := (blk_cell BK297.out 2).trans rfl
                              have hcz76_3 : wr.cell? ⟨gb297, 3, none⟩ = some (.int .i64 a2_3) := (blk_cell BK297.out 3).trans rfl
                              have hcz76_4 : wr.cell? ⟨gb297, 4, none⟩ = some (.int .i64 a2_4) := (blk_cell BK297.out 4).trans rfl
                              have hcz76_5 : wr.cell? ⟨gb297, 5, none⟩ = some (.slice A2_5 l2_5.length c2_5) := (blk_cell BK297.out 5).trans rfl
                              have hfz76_0 := blk_frozen BK297.out 0
                              have hfz76_1 := blk_frozen BK297.out 1
                              have hfz76_2 := blk_frozen BK297.out 2
                              have hfz76_3 := blk_frozen BK297.out 3
                              have hfz76_4 := blk_frozen BK297.out 4
                              have hfz76_5 := blk_frozen BK297.out 5
                              go_wp2_with (first | ((with_reducible refine gate_callee (f := 25) rfl ?_); refine goesL_ (some 54) rfl rfl Try.func25 (by kernel_rfl) rfl #[.agg #[.int .i64 ((rd_T40 l0 x36_2).f0), .int .i64 ((rd_T40 l0 x36_2).f1), .slice A344_2 ((rd_T40 l0 x36_2).f2).length c344_2], .agg #[.int .i64 a2_0, .int .i64 a2_1, .bool a2_2, .int .i64 a2_3, .int .i64 a2_4, .slice A2_5 l2_5.length c2_5]] rfl (by (try simp only [List.map_toArray, List.map_cons, List.map_nil]); first | done | rfl | (simp only [List.length_drop, List.length_take]; rfl)) ?_; (with_reducible refine (lookoutlaw16_satisfies.calls k3 ((rd_T40 l0 x36_2).f0) ((rd_T40 l0 x36_2).f1) _ _ ((rd_T40 l0 x36_2).f2) a2_0 a2_1 a2_2 a2_3 a2_4 _ _ l2_5 true _ ?side1 ?side2 ?side3 ?side4 A64.out).mono ?_); (case side1 => repeat (first | exact (Kd.C_below HR344_2.out HB.out) | (with_reducible refine Kd.C_alloc ?_ _) | (with_reducible refine Kd.C_drewN ?_ _) | (with_reducible refine Kd.C_drew ?_))); (case side2 => exact HC344_2.out); (case side3 => repeat (first | exact (Kd.C_below HR2_5.out HB.out) | (with_reducible refine Kd.C_alloc ?_ _) | (with_reducible refine Kd.C_drewN ?_ _) | (with_reducible refine Kd.C_drew ?_))); (case side4 => exact HC2_5.out); rintro e w77 ⟨rfl, hb⟩; refine ⟨_, rfl, ?_⟩; have n0_ := Aside0.mk (blk_below (g := gb297) (o := .cells #[.int .i64 a2_0, .int .i64 a2_1, .bool a2_2, .int .i64 a2_3, .int .i64 a2_4, .slice A2_5 l2_5.length c2_5] 35 (0, 0)) (by (with_reducible repeat (first | refine blk_drewN ?_ _ | refine blk_drew ?_ | refine blk_alloc ?_ _)); exact BK297.out) hb); have n1_ := Aside0.mk (blk_below (g := gb315) (o := .cells #[.int .i64 t302, .int .i64 t303, .int .i64 t304, .int .i64 t305, .int .i64 t306, .int .u32 t307, .int .u32 t308, .int .u32 t309, .int .u32 t310, .int .u32 t311, .int .u32 t312, .int .u32 t313, .int .u32 t314] 25 (0, 0)) (by (with_reducible repeat (first | refine blk_drewN ?_ _ | refine blk_drew ?_ | refine blk_alloc ?_ _)); exact BK315.out) hb); have n2_ := Aside0.mk (blk_below (g := gb342) (o := .cells #[.int .i64 t329, .int .i64 t330, .int .i64 t331, .int .i64 t332, .int .i64 t333, .int .u32 t334, .int .u32 t335, .int .u32 t336, .int .u32 t337, .int .u32 t338, .int .u32 t339, .int .u32 t340, .int .u32 t341] 25 (0, 0)) (by (with_reducible repeat (first | refine blk_drewN ?_ _ | refine blk_drew ?_ | refine blk_alloc ?_ _)); exact BK342.out) hb); have n3_ := Aside0.mk (blk_below (g := gb345) (o := .cells #[.int .i64 ((rd_T40 l0 x36_2).f0), .int .i64 ((rd_T40 l0 x36_2).f1), .slice A344_2 ((rd_T40 l0 x36_2).f2).length c344_2] 40 (0, 0)) (by (with_reducible repeat (first | refine blk_drewN ?_ _ | refine blk_drew ?_ | refine blk_alloc ?_ _)); exact BK345.out) hb); have n4_ := Aside0.mk (below_step (by repeat (first | (with_reducible first | exact HB.out | apply below_alloc | apply pw_below_drewN | apply below_drew1 | refine below_set ?_ GE297.out | refine below_set ?_ GE315.out | refine below_set ?_ GE342.out | refine below_set ?_ GE345.out) | exact HB.out)) hb); clear BK297; clear BK315; clear BK342; clear BK345; clear HB; have BK297 := n0_; have BK315 := n1_; have BK342 := n2_; have BK345 := n3_; have HB := n4_; clear n0_ n1_ n2_ n3_ n4_; (try clear hb); (try clear hb2); (try clear hk); (try clear hi); have hnb78 := NB315_342.out; have hnc78 := NB342_315.out; have hcz79_0 : w77.cell? ⟨gb315, 0, none⟩ = some (.int .i64 t302) := (blk_cell BK315.out 0).trans rfl; have hcz79_1 : w77.cell? ⟨gb315, 1, none⟩ = some (.int .i64 t303) := (blk_cell BK315.out 1).trans rfl; have hcz79_2 : w77.cell? ⟨gb315, 2, none⟩ = some (.int .i64 t304) := (blk_cell BK315.out 2).trans rfl; have hcz79_3 : w77.cell? ⟨gb315, 3, none⟩ = some (.int .i64 t305) := (blk_cell BK315.out 3).trans rfl; have hcz79_4 : w77.cell? ⟨gb315, 4, none⟩ = some (.int .i64 t306) := (blk_cell BK315.out 4).trans rfl; have hcz79_5 : w77.cell? ⟨gb315, 5, none⟩ = some (.int .u32 t307) := (blk_cell BK315.out 5).trans rfl; have hcz79_6 : w77.cell? ⟨gb315, 6, none⟩ = some (.int .u32 t308) := (blk_cell BK315.out 6).trans rfl; have hcz79_7 : w77.cell? ⟨gb315, 7, none⟩ = some (.int .u32 t309) := (blk_cell BK315.out 7).trans rfl; have hcz79_8 : w77.cell? ⟨gb315, 8, none⟩ = some (.int .u32 t310) := (blk_cell BK315.out 8).trans rfl; have hcz79_9 : w77.cell? ⟨gb315, 9, none⟩ = some (.int .u32 t311) := (blk_cell BK315.out 9).trans rfl; have hcz79_10 : w77.cell? ⟨gb315, 10, none⟩ = some (.int .u32 t312) := (blk_cell BK315.out 10).trans rfl; have hcz79_11 : w77.cell? ⟨gb315, 11, none⟩ = some (.int .u32 t313) := (blk_cell BK315.out 11).trans rfl; have hcz79_12 : w77.cell? ⟨gb315, 12, none⟩ = some (.int .u32 t314) := (blk_cell BK315.out 12).trans rfl; have hfz79_0 := blk_frozen BK315.out 0; have hfz79_1 := blk_frozen BK315.out 1; have hfz79_2 := blk_frozen BK315.out 2; have hfz79_3 := blk_frozen BK315.out 3; have hfz79_4 := blk_frozen BK315.out 4; have hfz79_5 := blk_frozen BK315.out 5; have hfz79_6 := blk_frozen BK315.out 6; have hfz79_7 := blk_frozen BK315.out 7; have hfz79_8 := blk_frozen BK315.out 8; have hfz79_9 := blk_frozen BK315.out 9; have hfz79_10 := blk_frozen BK315.out 10; have hfz79_11 := blk_frozen BK315.out 11; have hfz79_12 := blk_frozen BK315.out 12; have hcz80_0 : w77.cell? ⟨gb297, 0, none⟩ = some (.int .i64 a2_0) := (blk_cell BK297.out 0).trans rfl; have hcz80_1 : w77.cell? ⟨gb297, 1, none⟩ = some (.int .i64 a2_1) := (blk_cell BK297.out 1).trans rfl; have hcz80_2 : w77.cell? ⟨gb297, 2, none⟩ = some (.bool a2_2) := (blk_cell BK297.out 2).trans rfl; have hcz80_3 : w77.cell? ⟨gb297, 3, none⟩ = some (.int .i64 a2_3) := (blk_cell BK297.out 3).trans rfl; have hcz80_4 : w77.cell? ⟨gb297, 4, none⟩ = some (.int .i64 a2_4) := (blk_cell BK297.out 4).trans rfl; have hcz80_5 : w77.cell? ⟨gb297, 5, none⟩ = some (.slice A2_5 l2_5.length c2_5) := (blk_cell BK297.out 5).trans rfl; have hfz80_0 := blk_frozen BK297.out 0; have hfz80_1 := blk_frozen BK297.out 1; have hfz80_2 := blk_frozen BK297.out 2; have hfz80_3 := blk_frozen BK297.out 3; have hfz80_4 := blk_frozen BK297.out 4; have hfz80_5 := blk_frozen BK297.out 5) | (go_at_call 21; (with_reducible refine (zonemap_May.calls k3 t302 t303 t304 t305 t306 t307 t308 t309 t310 t311 t312 t313 t314 a2_0 a2_1 a2_2 a2_3 a2_4 _ _ l2_5 true _ ?side1 ?side2 A66.out).mono ?_); (case side1 => repeat (first | exact (Kd.C_below HR2_5.out HB.out) | (with_reducible refine Kd.C_alloc ?_ _) | (with_reducible refine Kd.C_drewN ?_ _) | (with_reducible refine Kd.C_drew ?_))); (case side2 => exact HC2_5.out); rintro e w81 ⟨rfl, hb⟩; have n0_ := Aside0.mk (blk_below (g := gb297) (o := .cells #[.int .i64 a2_0, .int .i64 a2_1, .bool a2_2, .int .i64 a2_3, .int .i64 a2_4, .slice A2_5 l2_5.length c2_5] 35 (0, 0)) (by (with_reducible repeat (first | refine blk_drewN ?_ _ | refine blk_drew ?_ | refine blk_alloc ?_ _)); exact BK297.out) hb); have n1_ := Aside0.mk (blk_below (g := gb315) (o := .cells #[.int .i64 t302, .int .i64 t303, .int .i64 t304, .int .i64 t305, .int .i64 t306, .int .u32 t307, .int .u32 t308, .int .u32 t309, .int .u32 t310, .int .u32 t311, .int .u32 t312, .int .u32 t313, .int .u32 t314] 25 (0, 0)) (by (with_reducible repeat (first | refine blk_drewN ?_ _ | refine blk_drew ?_ | refine blk_alloc ?_ _)); exact BK315.out) hb); have n2_ := Aside0.mk (blk_below (g := gb342) (o := .cells #[.int .i64 t329, .int .i64 t330, .int .i64 t331, .int .i64 t332, .int .i64 t333, .int .u32 t334, .int .u32 t335, .int .u32 t336, .int .u32 t337, .int .u32 t338, .int .u32 t339, .int .u32 t340, .int .u32 t341] 25 (0, 0)) (by (with_reducible repeat (first | refine blk_drewN ?_ _ | refine blk_drew ?_ | refine blk_alloc ?_ _)); exact BK342.out) hb); have n3_ := Aside0.mk (blk_below (g := gb345) (o := .cells #[.int .i64 ((rd_T40 l0 x36_2).f0), .int .i64 ((rd_T40 l0 x36_2).f1), .slice A344_2 ((rd_T40 l0 x36_2).f2).length c344_2] 40 (0, 0)) (by (with_reducible repeat (first | refine blk_drewN ?_ _ | refine blk_drew ?_ | refine blk_alloc ?_ _)); exact BK345.out) hb); have n4_ := Aside0.mk (below_step (by repeat (first | (with_reducible first | exact HB.out | apply below_alloc | apply pw_below_drewN | apply below_drew1 | refine below_set ?_ GE297.out | refine below_set ?_ GE315.out | refine below_set ?_ GE342.out | refine below_set ?_ GE345.out) | exact HB.out)) hb); clear BK297; clear BK315; clear BK342; clear BK345; clear HB; have BK297 := n0_; have BK315 := n1_; have BK342 := n2_; have BK345 := n3_; have HB := n4_; clear n0_ n1_ n2_ n3_ n4_; (try clear hb); (try clear hb2); (try clear hk); (try clear hi); have hcz82_0 : w81.cell? ⟨gb342, 0, none⟩ = some (.int .i64 t329) := (blk_cell BK342.out 0).trans rfl; have hcz82_1 : w81.cell? ⟨gb342, 1, none⟩ = some (.int .i64 t330) := (blk_cell BK342.out 1).trans rfl; have hcz82_2 : w81.cell? ⟨gb342, 2, none⟩ = some (.int .i64 t331) := (blk_cell BK342.out 2).trans rfl; have hcz82_3 : w81.cell? ⟨gb342, 3, none⟩ = some (.int .i64 t332) := (blk_cell BK342.out 3).trans rfl; have hcz82_4 : w81.cell? ⟨gb342, 4, none⟩ = some (.int .i64 t333) := (blk_cell BK342.out 4).trans rfl; have hcz82_5 : w81.cell? ⟨gb342, 5, none⟩ = some (.int .u32 t334) := (blk_cell BK342.out 5).trans rfl; have hcz82_6 : w81.cell? ⟨gb342, 6, none⟩ = some (.int .u32 t335) := (blk_cell BK342.out 6).trans rfl; have hcz82_7 : w81.cell? ⟨gb342, 7, none⟩ = some (.int .u32 t336) := (blk_cell BK342.out 7).trans rfl; have hcz82_8 : w81.cell? ⟨gb342, 8, none⟩ = some (.int .u32 t337) := (blk_cell BK342.out 8).trans rfl; have hcz82_9 : w81.cell? ⟨gb342, 9, none⟩ = some (.int .u32 t338) := (blk_cell BK342.out 9).trans rfl; have hcz82_10 : w81.cell? ⟨gb342, 10, none⟩ = some (.int .u32 t339) := (blk_cell BK342.out 10).trans rfl; have hcz82_11 : w81.cell? ⟨gb342, 11, none⟩ = some (.int .u32 t340) := (blk_cell BK342.out 11).trans rfl; have hcz82_12 : w81.cell? ⟨gb342, 12, none⟩ = some (.int .u32 t341) := (blk_cell BK342.out 12).trans rfl; have hfz82_0 := blk_frozen BK342.out 0; have hfz82_1 := blk_frozen BK342.out 1; have hfz82_2 := blk_frozen BK342.out 2; have hfz82_3 := blk_frozen BK342.out 3; have hfz82_4 := blk_frozen BK342.out 4; have hfz82_5 := blk_frozen BK342.out 5; have hfz82_6 := blk_frozen BK342.out 6; have hfz82_7 := blk_frozen BK342.out 7; have hfz82_8 := blk_frozen BK342.out 8; have hfz82_9 := blk_frozen BK342.out 9; have hfz82_10 := blk_frozen BK342.out 10; have hfz82_11 := blk_frozen BK342.out 11; have hfz82_12 := blk_frozen BK342.out 12; have hcz83_0 : w81.cell? ⟨gb297, 0, none⟩ = some (.int .i64 a2_0) := (blk_cell BK297.out 0).trans rfl; have hcz83_1 : w81.cell? ⟨gb297, 1, none⟩ = some (.int .i64 a2_1) := (blk_cell BK297.out 1).trans rfl; have hcz83_2 : w81.cell? ⟨gb297, 2, none⟩ = some (.bool a2_2) := (blk_cell BK297.out 2).trans rfl; have hcz83_3 : w81.cell? ⟨gb297, 3, none⟩ = some (.int .i64 a2_3) := (blk_cell BK297.out 3).trans rfl; have hcz83_4 : w81.cell? ⟨gb297, 4, none⟩ = some (.int .i64 a2_4) := (blk_cell BK297.out 4).trans rfl; have hcz83_5 : w81.cell? ⟨gb297, 5, none⟩ = some (.slice A2_5 l2_5.length c2_5) := (blk_cell BK297.out 5).trans rfl; have hfz83_0 := blk_frozen BK297.out 0; have hfz83_1 := blk_frozen BK297.out 1; have hfz83_2 := blk_frozen BK297.out 2; have hfz83_3 := blk_frozen BK297.out 3; have hfz83_4 := blk_frozen BK297.out 4; have hfz83_5 := blk_frozen BK297.out 5) | (go_at_call 21; (with_reducible refine (zonemap_May.calls k3 t329 t330 t331 t332 t333 t334 t335 t336 t337 t338 t339 t340 t341 a2_0 a2_1 a2_2 a2_3 a2_4 _ _ l2_5 true _ ?side1 ?side2 A68.out).mono ?_); (case side1 => repeat (first | exact (Kd.C_below HR2_5.out HB.out) | (with_reducible refine Kd.C_alloc ?_ _) | (with_reducible refine Kd.C_drewN ?_ _) | (with_reducible refine Kd.C_drew ?_))); (case side2 => exact HC2_5.out); rintro e w84 ⟨rfl, hb⟩; have n0_ := Aside0.mk (blk_below (g := gb297) (o := .cells #[.int .i64 a2_0, .int .i64 a2_1, .bool a2_2, .int .i64 a2_3, .int .i64 a2_4, .slice A2_5 l2_5.length c2_5] 35 (0, 0)) (by (with_reducible repeat (first | refine blk_drewN ?_ _ | refine blk_drew ?_ | refine blk_alloc ?_ _)); exact BK297.out) hb); have n1_ := Aside0.mk (blk_below (g := gb315) (o := .cells #[.int .i64 t302, .int .i64 t303, .int .i64 t304, .int .i64 t305, .int .i64 t306, .int .u32 t307, .int .u32 t308, .int .u32 t309, .int .u32 t310, .int .u32 t311, .int .u32 t312, .int .u32 t313, .int .u32 t314] 25 (0, 0)) (by (with_reducible repeat (first | refine blk_drewN ?_ _ | refine blk_drew ?_ | refine blk_alloc ?_ _)); exact BK315.out) hb); have n2_ := Aside0.mk (blk_below (g := gb342) (o := .cells #[.int .i64 t329, .int .i64 t330, .int .i64 t331, .int .i64 t332, .int .i64 t333, .int .u32 t334, .int .u32 t335, .int .u32 t336, .int .u32 t337, .int .u32 t338, .int .u32 t339, .int .u32 t340, .int .u32 t341] 25 (0, 0)) (by (with_reducible repeat (first | refine blk_drewN ?_ _ | refine blk_drew ?_ | refine blk_alloc ?_ _)); exact BK342.out) hb); have n3_ := Aside0.mk (blk_below (g := gb345) (o := .cells #[.int .i64 ((rd_T40 l0 x36_2).f0), .int .i64 ((rd_T40 l0 x36_2).f1), .slice A344_2 ((rd_T40 l0 x36_2).f2).length c344_2] 40 (0, 0)) (by (with_reducible repeat (first | refine blk_drewN ?_ _ | refine blk_drew ?_ | refine blk_alloc ?_ _)); exact BK345.out) hb); have n4_ := Aside0.mk (below_step (by repeat (first | (with_reducible first | exact HB.out | apply below_alloc | apply pw_below_drewN | apply below_drew1 | refine below_set ?_ GE297.out | refine below_set ?_ GE315.out | refine below_set ?_ GE342.out | refine below_set ?_ GE345.out) | exact HB.out)) hb); clear BK297; clear BK315; clear BK342; clear BK345; clear HB; have BK297 := n0_; have BK315 := n1_; have BK342 := n2_; have BK345 := n3_; have HB := n4_; clear n0_ n1_ n2_ n3_ n4_; (try clear hb); (try clear hb2); (try clear hk); (try clear hi)))
                              go_roundg k3
                              case measure => have := HJ3.out; have := HK2.out; have := HK3.out; omega
                              case rel => exact ⟨(wrap64 (x36_2 + 1)), (by first | rfl | (simp; done) | (simp [*]; done)), H', ⟨by have := HJ3.out; have := HK2.out; have := HK3.out; omega⟩, ⟨by (with_reducible repeat (first | refine blk_drewN ?_ _ | refine blk_drew ?_ | refine blk_alloc ?_ _)); exact BK297.out⟩, ⟨by (with_reducible repeat (first | refine blk_drewN ?_ _ | refine blk_drew ?_ | refine blk_alloc ?_ _)); exact BK315.out⟩, ⟨by (with_reducible repeat (first | refine blk_drewN ?_ _ | refine blk_drew ?_ | refine blk_alloc ?_ _)); exact BK342.out⟩, ⟨by repeat (first | (with_reducible first | exact HB.out | apply below_alloc | apply pw_below_drewN | apply below_drew1 | refine below_set ?_ GE297.out | refine below_set ?_ GE315.out | refine below_set ?_ GE342.out | refine below_set ?_ GE345.out) | exact HB.out)⟩⟩
                            · replace c69 := Bool.eq_false_iff.mpr c69
                              subst c69
                              have H1 : (none) = some r := by rw [if_neg (show ¬ (false = true) by decide)] at H; exact H
                              clear H
                              have H := H1
                              clear H1
                              exact absurd H (by simp)
                          · replace c67 := Bool.eq_false_iff.mpr c67
                            subst c67
                            have H1 : (none) = some r := by rw [if_neg (show ¬ (false = true) by decide)] at H; exact H
                            clear H
                            have H := H1
                            clear H1
                            exact absurd H (by simp)
                        · replace c65 := Bool.eq_false_iff.mpr c65
                          subst c65
                          have H1 : (lookoutlaw16_ZonemapHits.l0 k3 l0 l0 (l0.length : Int) (wrap64 (x36_2 + 1)) a2_0 a2_1 a2_2 a2_3 a2_4 l2_5 t302 t303 t304 t305 t306 t307 t308 t309 t310 t311 t312 t313 t314 t329 t330 t331 t332 t333 t334 t335 t336 t337 t338 t339 t340 t341) = some r := by rw [if_neg (show ¬ (false = true) by decide)] at H; exact H
                          clear H
                          have H := H1
                          clear H1
                          have H' := Aside0.mk H
                          clear H
                          have hnb85 := NB345_297.out
                          have hnc85 := NB297_345.out
                          have hnb86 := NB345_315.out
                          have hnc86 := NB315_345.out
                          have hnb87 := NB345_342.out
                          have hnc87 := NB342_345.out
                          have hcz88_0 : wr.cell? ⟨gb345, 0, none⟩ = some (.int .i64 ((rd_T40 l0 x36_2).f0)) := (blk_cell BK345.out 0).trans rfl
                          have hcz88_1 : wr.cell? ⟨gb345, 1, none⟩ = some (.int .i64 ((rd_T40 l0 x36_2).f1)) := (blk_cell BK345.out 1).trans rfl
                          have hcz88_2 : wr.cell? ⟨gb345, 2, none⟩ = some (.slice A344_2 ((rd_T40 l0 x36_2).f2).length c344_2) := (blk_cell BK345.out 2).trans rfl
                          have hfz88_0 := blk_frozen BK345.out 0
                          have hfz88_1 := blk_frozen BK345.out 1
                          have hfz88_2 := blk_frozen BK345.out 2
                          have hnb89 := NB297_315.out
                          have hnc89 := NB315_297.out
                          have hnb90 := NB297_342.out
                          have hnc90 := NB342_297.out
                          have hcz91_0 : wr.cell? ⟨gb297, 0, none⟩ = some (.int .i64 a2_0) := (blk_cell BK297.out 0).trans rfl
                          have hcz91_1 : wr.cell? ⟨gb297, 1, none⟩ = some (.int .i64 a2_1) := (blk_cell BK297.out 1).trans rfl
                          have hcz91_2 : wr.cell? ⟨gb297, 2, none⟩ = some (.bool a2_2) := (blk_cell BK297.out 2).trans rfl
                          have hcz91_3 : wr.cell? ⟨gb297, 3, none⟩ = some (.int .i64 a2_3) := (blk_cell BK297.out 3).trans rfl
                          have hcz91_4 : wr.cell? ⟨gb297, 4, none⟩ = some (.int .i64 a2_4) := (blk_cell BK297.out 4).trans rfl
                          have hcz91_5 : wr.cell? ⟨gb297, 5, none⟩ = some (.slice A2_5 l2_5.length c2_5) := (blk_cell BK297.out 5).trans rfl
                          have hfz91_0 := blk_frozen BK297.out 0
                          have hfz91_1 := blk_frozen BK297.out 1
                          have hfz91_2 := blk_frozen BK297.out 2
                          have hfz91_3 := blk_frozen BK297.out 3
                          have hfz91_4 := blk_frozen BK297.out 4
                          have hfz91_5 := blk_frozen BK297.out 5
                          go_wp2_with (first | ((with_reducible refine gate_callee (f := 25) rfl ?_); refine goesL_ (some 54) rfl rfl Try.func25 (by kernel_rfl) rfl #[.agg #[.int .i64 ((rd_T40 l0 x36_2).f0), .int .i64 ((rd_T40 l0 x36_2).f1), .slice A344_2 ((rd_T40 l0 x36_2).f2).length c344_2], .agg #[.int .i64 a2_0, .int .i64 a2_1, .bool a2_2, .int .i64 a2_3, .int .i64 a2_4, .slice A2_5 l2_5.length c2_5]] rfl (by (try simp only [List.map_toArray, List.map_cons, List.map_nil]); first | done | rfl | (simp only [List.length_drop, List.length_take]; rfl)) ?_; (with_reducible refine (lookoutlaw16_satisfies.calls k3 ((rd_T40 l0 x36_2).f0) ((rd_T40 l0 x36_2).f1) _ _ ((rd_T40 l0 x36_2).f2) a2_0 a2_1 a2_2 a2_3 a2_4 _ _ l2_5 false _ ?side1 ?side2 ?side3 ?side4 A64.out).mono ?_); (case side1 => repeat (first | exact (Kd.C_below HR344_2.out HB.out) | (with_reducible refine Kd.C_alloc ?_ _) | (with_reducible refine Kd.C_drewN ?_ _) | (with_reducible refine Kd.C_drew ?_))); (case side2 => exact HC344_2.out); (case side3 => repeat (first | exact (Kd.C_below HR2_5.out HB.out) | (with_reducible refine Kd.C_alloc ?_ _) | (with_reducible refine Kd.C_drewN ?_ _) | (with_reducible refine Kd.C_drew ?_))); (case side4 => exact HC2_5.out); rintro e w92 ⟨rfl, hb⟩; refine ⟨_, rfl, ?_⟩; have n0_ := Aside0.mk (blk_below (g := gb297) (o := .cells #[.int .i64 a2_0, .int .i64 a2_1, .bool a2_2, .int .i64 a2_3, .int .i64 a2_4, .slice A2_5 l2_5.length c2_5] 35 (0, 0)) (by (with_reducible repeat (first | refine blk_drewN ?_ _ | refine blk_drew ?_ | refine blk_alloc ?_ _)); exact BK297.out) hb); have n1_ := Aside0.mk (blk_below (g := gb315) (o := .cells #[.int .i64 t302, .int .i64 t303, .int .i64 t304, .int .i64 t305, .int .i64 t306, .int .u32 t307, .int .u32 t308, .int .u32 t309, .int .u32 t310, .int .u32 t311, .int .u32 t312, .int .u32 t313, .int .u32 t314] 25 (0, 0)) (by (with_reducible repeat (first | refine blk_drewN ?_ _ | refine blk_drew ?_ | refine blk_alloc ?_ _)); exact BK315.out) hb); have n2_ := Aside0.mk (blk_below (g := gb342) (o := .cells #[.int .i64 t329, .int .i64 t330, .int .i64 t331, .int .i64 t332, .int .i64 t333, .int .u32 t334, .int .u32 t335, .int .u32 t336, .int .u32 t337, .int .u32 t338, .int .u32 t339, .int .u32 t340, .int .u32 t341] 25 (0, 0)) (by (with_reducible repeat (first | refine blk_drewN ?_ _ | refine blk_drew ?_ | refine blk_alloc ?_ _)); exact BK342.out) hb); have n3_ := Aside0.mk (blk_below (g := gb345) (o := .cells #[.int .i64 ((rd_T40 l0 x36_2).f0), .int .i64 ((rd_T40 l0 x36_2).f1), .slice A344_2 ((rd_T40 l0 x36_2).f2).length c344_2] 40 (0, 0)) (by (with_reducible repeat (first | refine blk_drewN ?_ _ | refine blk_drew ?_ | refine blk_alloc ?_ _)); exact BK345.out) hb); have n4_ := Aside0.mk (below_step (by repeat (first | (with_reducible first | exact HB.out | apply below_alloc | apply pw_below_drewN | apply below_drew1 | refine below_set ?_ GE297.out | refine below_set ?_ GE315.out | refine below_set ?_ GE342.out | refine below_set ?_ GE345.out) | exact HB.out)) hb); clear BK297; clear BK315; clear BK342; clear BK345; clear HB; have BK297 := n0_; have BK315 := n1_; have BK342 := n2_; have BK345 := n3_; have HB := n4_; clear n0_ n1_ n2_ n3_ n4_; (try clear hb); (try clear hb2); (try clear hk); (try clear hi)))
                          go_roundg k3
                          case measure => have := HJ3.out; have := HK2.out; have := HK3.out; omega
                          case rel => exact ⟨(wrap64 (x36_2 + 1)), (by first | rfl | (simp; done) | (simp [*]; done)), H', ⟨by have := HJ3.out; have := HK2.out; have := HK3.out; omega⟩, ⟨by (with_reducible repeat (first | refine blk_drewN ?_ _ | refine blk_drew ?_ | refine blk_alloc ?_ _)); exact BK297.out⟩, ⟨by (with_reducible repeat (first | refine blk_drewN ?_ _ | refine blk_drew ?_ | refine blk_alloc ?_ _)); exact BK315.out⟩, ⟨by (with_reducible repeat (first | refine blk_drewN ?_ _ | refine blk_drew ?_ | refine blk_alloc ?_ _)); exact BK342.out⟩, ⟨by repeat (first | (with_reducible first | exact HB.out | apply below_alloc | apply pw_below_drewN | apply below_drew1 | refine below_set ?_ GE297.out | refine below_set ?_ GE315.out | refine below_set ?_ GE342.out | refine below_set ?_ GE345.out) | exact HB.out)⟩⟩
                · rw [if_neg c48] at H
                  exact absurd H (by simp)
              · rw [if_neg c47] at H
                exact absurd H (by simp)
            · rw [if_neg c46] at H
              have c46b0 : decide (x36_2 < (l0.length : Int)) = false := decide_eq_false c46
              clear c46
              by_cases c93 : t302 = (l0.length : Int)
              · rw [if_pos c93] at H
                have c93b0 : (t302 == (l0.length : Int)) = true := beq_iff_eq.mpr c93
                have c93b1 : (t302 != (l0.length : Int)) = false := bne_eq_false_iff_eq.mpr c93
                clear c93
                replace H := Option.bind_eq_some_iff.mp H
                obtain ⟨t343, A940, H⟩ := H
                replace H : (some t343) = some r := H
                have A94 := Aside0.mk A940
                clear A940
                obtain rfl := Option.some.inj H
                have hnb95 := NB315_297.out
                have hnc95 := NB297_315.out
                have hnb96 := NB315_342.out
                have hnc96 := NB342_315.out
                have hcz97_0 : wr.cell? ⟨gb315, 0, none⟩ = some (.int .i64 t302) := (blk_cell BK315.out 0).trans rfl
                have hcz97_1 : wr.cell? ⟨gb315, 1, none⟩ = some (.int .i64 t303) := (blk_cell BK315.out 1).trans rfl
                have hcz97_2 : wr.cell? ⟨gb315, 2, none⟩ = some (.int .i64 t304) := (blk_cell BK315.out 2).trans rfl
                have hcz97_3 : wr.cell? ⟨gb315, 3, none⟩ = some (.int .i64 t305) := (blk_cell BK315.out 3).trans rfl
                have hcz97_4 : wr.cell? ⟨gb315, 4, none⟩ = some (.int .i64 t306) := (blk_cell BK315.out 4).trans rfl
                have hcz97_5 : wr.cell? ⟨gb315, 5, none⟩ = some (.int .u32 t307) := (blk_cell BK315.out 5).trans rfl
                have hcz97_6 : wr.cell? ⟨gb315, 6, none⟩ = some (.int .u32 t308) := (blk_cell BK315.out 6).trans rfl
                have hcz97_7 : wr.cell? ⟨gb315, 7, none⟩ = some (.int .u32 t309) := (blk_cell BK315.out 7).trans rfl
                have hcz97_8 : wr.cell? ⟨gb315, 8, none⟩ = some (.int .u32 t310) := (blk_cell BK315.out 8).trans rfl
                have hcz97_9 : wr.cell? ⟨gb315, 9, none⟩ = some (.int .u32 t311) := (blk_cell BK315.out 9).trans rfl
                have hcz97_10 : wr.cell? ⟨gb315, 10, none⟩ = some (.int .u32 t312) := (blk_cell BK315.out 10).trans rfl
                have hcz97_11 : wr.cell? ⟨gb315, 11, none⟩ = some (.int .u32 t313) := (blk_cell BK315.out 11).trans rfl
                have hcz97_12 : wr.cell? ⟨gb315, 12, none⟩ = some (.int .u32 t314) := (blk_cell BK315.out 12).trans rfl
                have hfz97_0 := blk_frozen BK315.out 0
                have hfz97_1 := blk_frozen BK315.out 1
                have hfz97_2 := blk_frozen BK315.out 2
                have hfz97_3 := blk_frozen BK315.out 3
                have hfz97_4 := blk_frozen BK315.out 4
                have hfz97_5 := blk_frozen BK315.out 5
                have hfz97_6 := blk_frozen BK315.out 6
                have hfz97_7 := blk_frozen BK315.out 7
                have hfz97_8 := blk_frozen BK315.out 8
                have hfz97_9 := blk_frozen BK315.out 9
                have hfz97_10 := blk_frozen BK315.out 10
                have hfz97_11 := blk_frozen BK315.out 11
                have hfz97_12 := blk_frozen BK315.out 12
                go_wp2_with (first | (go_at_call 12; (with_reducible refine (lookoutlaw16_awake.calls k2  t343 _ A94.out).mono ?_); rintro e w98 ⟨rfl, hb⟩; have n0_ := Aside0.mk (blk_below (g := gb297) (o := .cells #[.int .i64 a2_0, .int .i64 a2_1, .bool a2_2, .int .i64 a2_3, .int .i64 a2_4, .slice A2_5 l2_5.length c2_5] 35 (0, 0)) (by (with_reducible repeat (first | refine blk_drewN ?_ _ | refine blk_drew ?_ | refine blk_alloc ?_ _)); exact BK297.out) hb); have n1_ := Aside0.mk (blk_below (g := gb315) (o := .cells #[.int .i64 t302, .int .i64 t303, .int .i64 t304, .int .i64 t305, .int .i64 t306, .int .u32 t307, .int .u32 t308, .int .u32 t309, .int .u32 t310, .int .u32 t311, .int .u32 t312, .int .u32 t313, .int .u32 t314] 25 (0, 0)) (by (with_reducible repeat (first | refine blk_drewN ?_ _ | refine blk_drew ?_ | refine blk_alloc ?_ _)); exact BK315.out) hb); have n2_ := Aside0.mk (blk_below (g := gb342) (o := .cells #[.int .i64 t329, .int .i64 t330, .int .i64 t331, .int .i64 t332, .int .i64 t333, .int .u32 t334, .int .u32 t335, .int .u32 t336, .int .u32 t337, .int .u32 t338, .int .u32 t339, .int .u32 t340, .int .u32 t341] 25 (0, 0)) (by (with_reducible repeat (first | refine blk_drewN ?_ _ | refine blk_drew ?_ | refine blk_alloc ?_ _)); exact BK342.out) hb); have n3_ := Aside0.mk (below_step (by repeat (first | (with_reducible first | exact HB.out | apply below_alloc | apply pw_below_drewN | apply below_drew1 | refine below_set ?_ GE297.out | refine below_set ?_ GE315.out | refine below_set ?_ GE342.out) | exact HB.out)) hb); clear BK297; clear BK315; clear BK342; clear HB; have BK297 := n0_; have BK315 := n1_; have BK342 := n2_; have HB := n3_; clear n0_ n1_ n2_ n3_; (try clear hb); (try clear hb2); (try clear hk); (try clear hi)))
                go_ret
                exact ⟨by first | rfl | (simp [errW_none, errW_some] <;> rfl) | (simp [*, errW_none, errW_some] <;> rfl), by repeat (first | (with_reducible first | exact HB.out | apply below_alloc | apply pw_below_drewN | apply below_drew1 | refine below_set ?_ GE297.out | refine below_set ?_ GE315.out | refine below_set ?_ GE342.out) | exact HB.out)⟩
              · rw [if_neg c93] at H
                exact absurd H (by simp)

def lookoutlaw16_ZonemapHits.WT40 (x : S40) : Prop := (Lit.int .i64 x.f0).wf = true ∧ (Lit.int .i64 x.f1).wf = true ∧ (x.f2.length ≤ maxLen ∧ x.f2.length * 16 ≤ 140737488351232 ∧ ∀ y ∈ x.f2, y.size ≤ 140737488351232)
def lookoutlaw16_ZonemapHits.WT35 (x : S35) : Prop := (Lit.int .i64 x.f0).wf = true ∧ (Lit.int .i64 x.f1).wf = true ∧ True ∧ (Lit.int .i64 x.f3).wf = true ∧ (Lit.int .i64 x.f4).wf = true ∧ (x.f5.length ≤ maxLen ∧ x.f5.length * 16 ≤ 140737488351232 ∧ ∀ y ∈ x.f5, y.size ≤ 140737488351232)
/-- THE ONE PURE STATEMENT of lookoutlaw16_ZonemapHits. -/
def lookoutlaw16_ZonemapHits.Pure : Prop := ∀ (l0 : List (S40)) (l1 : List (S40)) (a2_0 : Int) (a2_1 : Int) (a2_2 : Bool) (a2_3 : Int) (a2_4 : Int) (l2_5 : List ByteArray), l0.length ≤ maxLen → l0.length * 40 ≤ 140737488351232 → (∀ x ∈ l0, lookoutlaw16_ZonemapHits.WT40 x) → l1.length ≤ maxLen → l1.length * 40 ≤ 140737488351232 → (∀ x ∈ l1, lookoutlaw16_ZonemapHits.WT40 x) → (Lit.int .i64 a2_0).wf = true → (Lit.int .i64 a2_1).wf = true → (Lit.int .i64 a2_3).wf = true → (Lit.int .i64 a2_4).wf = true → l2_5.length ≤ maxLen → l2_5.length * 16 ≤ 140737488351232 → (∀ x ∈ l2_5, x.size ≤ 140737488351232) → ∃ k, lookoutlaw16_ZonemapHits.f k l0 l1 a2_0 a2_1 a2_2 a2_3 a2_4 l2_5 = some true

end Go.Proofs.Ytdokabaeddaipaa.P
