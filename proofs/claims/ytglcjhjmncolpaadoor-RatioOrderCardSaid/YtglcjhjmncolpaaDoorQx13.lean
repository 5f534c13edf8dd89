-- Written for this claim by a program of the session (wip/print2). Not trusted: Lean checks it.
import Derived.Test.YtglcjhjmncolpaaDoorQx0
import Derived.Test.YtglcjhjmncolpaaDoorQx2
import Derived.Test.YtglcjhjmncolpaaDoorQx3
import Derived.Test.YtglcjhjmncolpaaDoorQx9
namespace Go.Proofs.YtglcjhjmncolpaaDoor.Q
open Go.RowKit Go.Proofs.YtglcjhjmncolpaaDoorW.PrintWords Go.Proofs.YtglcjhjmncolpaaDoorW.PrintLast Go.Proofs.YtglcjhjmncolpaaDoorW.PrintMore
attribute [local go_sem] max2_int min2_int max_two min_two max_three min_three max_four min_four   -- for this text's walks alone
set_option linter.unusedVariables false
set_option linter.unusedSimpArgs false

attribute [local go_sem high] eqA47
/-! ### ratio_Cmp: function 11 -/
mutual
def ratio_Cmp.j0 : Nat → Bool → Int → Int → Int → Int → Option (Int × Int)
 | 0, _, _, _, _, _ => none
 | k + 1, x15, x280000, x280001, x281000, x281001 => if x15 = true then (some (0, 1)) else ((ratio_times.f x280000 x281001).bind fun bt283 => ((ratio_times.f x281000 x280001).bind fun bt286 => (if (bt283.2.1 == 0 && (bt283.2.2 == 0)) = true then (ratio_Cmp.j1 k (bt286.2.1 == 0 && (bt286.2.2 == 0)) x280000 x280001 x281000 x281001 bt283.1 bt283.2.1 bt283.2.2 bt286.1 bt286.2.1 bt286.2.2) else (ratio_Cmp.j1 k false x280000 x280001 x281000 x281001 bt283.1 bt283.2.1 bt283.2.2 bt286.1 bt286.2.1 bt286.2.2))))
def ratio_Cmp.j1 : Nat → Bool → Int → Int → Int → Int → Bool → Int → Int → Bool → Int → Int → Option (Int × Int)
 | 0, _, _, _, _, _, _, _, _, _, _, _ => none
 | k + 1, x26, x280000, x280001, x281000, x281001, x290000, x290001, x290002, x291000, x291001, x291002 => if x26 = true then (some (0, 0)) else (if x280000 < 0 then (ratio_Cmp.j2 k (decide (x281000 ≥ 0)) x280000 x280001 x281000 x281001 x290000 x290001 x290002 x291000 x291001 x291002) else (ratio_Cmp.j2 k false x280000 x280001 x281000 x281001 x290000 x290001 x290002 x291000 x291001 x291002))
def ratio_Cmp.j2 : Nat → Bool → Int → Int → Int → Int → Bool → Int → Int → Bool → Int → Int → Option (Int × Int)
 | 0, _, _, _, _, _, _, _, _, _, _, _ => none
 | k + 1, x37, x280000, x280001, x281000, x281001, x290000, x290001, x290002, x291000, x291001, x291002 => if x37 = true then (some ((-1), 0)) else (if x280000 ≥ 0 then (ratio_Cmp.j3 k (decide (x281000 < 0)) x280000 x280001 x290000 x290001 x290002 x291000 x291001 x291002) else (ratio_Cmp.j3 k false x280000 x280001 x290000 x290001 x290002 x291000 x291001 x291002))
def ratio_Cmp.j3 : Nat → Bool → Int → Int → Bool → Int → Int → Bool → Int → Int → Option (Int × Int)
 | 0, _, _, _, _, _, _, _, _, _ => none
 | k + 1, x46, x280000, x280001, x290000, x290001, x290002, x291000, x291001, x291002 => if x46 = true then (some (1, 0)) else (if x280000 < 0 then ((wide_Cmp.f k x291001 x291002 x290001 x290002).bind fun t291 => (some (t291, 0))) else ((wide_Cmp.f k x290001 x290002 x291001 x291002).bind fun t292 => (some (t292, 0))))
end
def ratio_Cmp.f (k : Nat) (a0_0 : Int) (a0_1 : Int) (a1_0 : Int) (a1_1 : Int) : Option (Int × Int) := (ratio_May.f k a0_0 a0_1).bind fun t281 => (if t281 = true then ((ratio_May.f k a1_0 a1_1).bind fun t282 => (ratio_Cmp.j0 k (!t282) a0_0 a0_1 a1_0 a1_1)) else (ratio_Cmp.j0 k true a0_0 a0_1 a1_0 a1_1))
theorem ratio_Cmp.mono_l : ∀ k, (∀ y0 y1 y2 y3 y4, LeO (ratio_Cmp.j0 k y0 y1 y2 y3 y4) (ratio_Cmp.j0 (k + 1) y0 y1 y2 y3 y4)) ∧ (∀ y0 y1 y2 y3 y4 y5 y6 y7 y8 y9 y10, LeO (ratio_Cmp.j1 k y0 y1 y2 y3 y4 y5 y6 y7 y8 y9 y10) (ratio_Cmp.j1 (k + 1) y0 y1 y2 y3 y4 y5 y6 y7 y8 y9 y10)) ∧ (∀ y0 y1 y2 y3 y4 y5 y6 y7 y8 y9 y10, LeO (ratio_Cmp.j2 k y0 y1 y2 y3 y4 y5 y6 y7 y8 y9 y10) (ratio_Cmp.j2 (k + 1) y0 y1 y2 y3 y4 y5 y6 y7 y8 y9 y10)) ∧ (∀ y0 y1 y2 y3 y4 y5 y6 y7 y8, LeO (ratio_Cmp.j3 k y0 y1 y2 y3 y4 y5 y6 y7 y8) (ratio_Cmp.j3 (k + 1) y0 y1 y2 y3 y4 y5 y6 y7 y8))
 | 0 => ⟨fun _ _ _ _ _ r h => by simp [ratio_Cmp.j0] at h, fun _ _ _ _ _ _ _ _ _ _ _ r h => by simp [ratio_Cmp.j1] at h, fun _ _ _ _ _ _ _ _ _ _ _ r h => by simp [ratio_Cmp.j2] at h, fun _ _ _ _ _ _ _ _ _ r h => by simp [ratio_Cmp.j3] at h⟩
 | k + 1 => by
  obtain ⟨ih0, ih1, ih2, ih3⟩ := ratio_Cmp.mono_l k
  refine ⟨?_, ?_, ?_, ?_⟩
  ·intro y0 y1 y2 y3 y4
   unfold ratio_Cmp.j0
   repeat' first
   | (with_reducible exact ih0 _ _ _ _ _)
   | (with_reducible exact ih1 _ _ _ _ _ _ _ _ _ _ _)
   | (with_reducible exact ih2 _ _ _ _ _ _ _ _ _ _ _)
   | (with_reducible exact ih3 _ _ _ _ _ _ _ _ _)
   | (with_reducible exact ratio_May.mono _ _ _)
   | (with_reducible exact wide_Cmp.mono _ _ _ _ _)
   | (with_reducible exact LeO.refl _)
   | (with_reducible exact LeO.none _)
   | (with_reducible refine LeO.ite ?_ ?_)
   | (with_reducible refine LeO.bind ?_ (fun _ => ?_))
   | exact ih0 _ _ _ _ _
   | exact ih1 _ _ _ _ _ _ _ _ _ _ _
   | exact ih2 _ _ _ _ _ _ _ _ _ _ _
   | exact ih3 _ _ _ _ _ _ _ _ _
   | exact ratio_May.mono _ _ _
   | exact wide_Cmp.mono _ _ _ _ _
   | exact LeO.none _
   | refine LeO.ite ?_ ?_
   | refine LeO.bind ?_ (fun _ => ?_)
  ·intro y0 y1 y2 y3 y4 y5 y6 y7 y8 y9 y10
   unfold ratio_Cmp.j1
   repeat' first
   | (with_reducible exact ih0 _ _ _ _ _)
   | (with_reducible exact ih1 _ _ _ _ _ _ _ _ _ _ _)
   | (with_reducible exact ih2 _ _ _ _ _ _ _ _ _ _ _)
   | (with_reducible exact ih3 _ _ _ _ _ _ _ _ _)
   | (with_reducible exact ratio_May.mono _ _ _)
   | (with_reducible exact wide_Cmp.mono _ _ _ _ _)
   | (with_reducible exact LeO.refl _)
   | (with_reducible exact LeO.none _)
   | (with_reducible refine LeO.ite ?_ ?_)
   | (with_reducible refine LeO.bind ?_ (fun _ => ?_))
   | exact ih0 _ _ _ _ _
   | exact ih1 _ _ _ _ _ _ _ _ _ _ _
   | exact ih2 _ _ _ _ _ _ _ _ _ _ _
   | exact ih3 _ _ _ _ _ _ _ _ _
   | exact ratio_May.mono _ _ _
   | exact wide_Cmp.mono _ _ _ _ _
   | exact LeO.none _
   | refine LeO.ite ?_ ?_
   | refine LeO.bind ?_ (fun _ => ?_)
  ·intro y0 y1 y2 y3 y4 y5 y6 y7 y8 y9 y10
   unfold ratio_Cmp.j2
   repeat' first
   | (with_reducible exact ih0 _ _ _ _ _)
   | (with_reducible exact ih1 _ _ _ _ _ _ _ _ _ _ _)
   | (with_reducible exact ih2 _ _ _ _ _ _ _ _ _ _ _)
   | (with_reducible exact ih3 _ _ _ _ _ _ _ _ _)
   | (with_reducible exact ratio_May.mono _ _ _)
   | (with_reducible exact wide_Cmp.mono _ _ _ _ _)
   | (with_reducible exact LeO.refl _)
   | (with_reducible exact LeO.none _)
   | (with_reducible refine LeO.ite ?_ ?_)
   | (with_reducible refine LeO.bind ?_ (fun _ => ?_))
   | exact ih0 _ _ _ _ _
   | exact ih1 _ _ _ _ _ _ _ _ _ _ _
   | exact ih2 _ _ _ _ _ _ _ _ _ _ _
   | exact ih3 _ _ _ _ _ _ _ _ _
   | exact ratio_May.mono _ _ _
   | exact wide_Cmp.mono _ _ _ _ _
   | exact LeO.none _
   | refine LeO.ite ?_ ?_
   | refine LeO.bind ?_ (fun _ => ?_)
  ·intro y0 y1 y2 y3 y4 y5 y6 y7 y8
   unfold ratio_Cmp.j3
   repeat' first
   | (with_reducible exact ih0 _ _ _ _ _)
   | (with_reducible exact ih1 _ _ _ _ _ _ _ _ _ _ _)
   | (with_reducible exact ih2 _ _ _ _ _ _ _ _ _ _ _)
   | (with_reducible exact ih3 _ _ _ _ _ _ _ _ _)
   | (with_reducible exact ratio_May.mono _ _ _)
   | (with_reducible exact wide_Cmp.mono _ _ _ _ _)
   | (with_reducible exact LeO.refl _)
   | (with_reducible exact LeO.none _)
   | (with_reducible refine LeO.ite ?_ ?_)
   | (with_reducible refine LeO.bind ?_ (fun _ => ?_))
   | exact ih0 _ _ _ _ _
   | exact ih1 _ _ _ _ _ _ _ _ _ _ _
   | exact ih2 _ _ _ _ _ _ _ _ _ _ _
   | exact ih3 _ _ _ _ _ _ _ _ _
   | exact ratio_May.mono _ _ _
   | exact wide_Cmp.mono _ _ _ _ _
   | exact LeO.none _
   | refine LeO.ite ?_ ?_
   | refine LeO.bind ?_ (fun _ => ?_)
theorem ratio_Cmp.mono : ∀ a0 a1 a2 a3 k, LeO (ratio_Cmp.f k a0 a1 a2 a3) (ratio_Cmp.f (k + 1) a0 a1 a2 a3) := by
 intro a0 a1 a2 a3 k
 obtain ⟨ih0, ih1, ih2, ih3⟩ := ratio_Cmp.mono_l k
 unfold ratio_Cmp.f
 repeat' first
   | (with_reducible exact ih0 _ _ _ _ _)
   | (with_reducible exact ih1 _ _ _ _ _ _ _ _ _ _ _)
   | (with_reducible exact ih2 _ _ _ _ _ _ _ _ _ _ _)
   | (with_reducible exact ih3 _ _ _ _ _ _ _ _ _)
   | (with_reducible exact ratio_May.mono _ _ _)
   | (with_reducible exact wide_Cmp.mono _ _ _ _ _)
   | (with_reducible exact LeO.refl _)
   | (with_reducible exact LeO.none _)
   | (with_reducible refine LeO.ite ?_ ?_)
   | (with_reducible refine LeO.bind ?_ (fun _ => ?_))
   | exact ih0 _ _ _ _ _
   | exact ih1 _ _ _ _ _ _ _ _ _ _ _
   | exact ih2 _ _ _ _ _ _ _ _ _ _ _
   | exact ih3 _ _ _ _ _ _ _ _ _
   | exact ratio_May.mono _ _ _
   | exact wide_Cmp.mono _ _ _ _ _
   | exact LeO.none _
   | refine LeO.ite ?_ ?_
   | refine LeO.bind ?_ (fun _ => ?_)
def ratio_Cmp.T3 : Bool × List (List Nat × List Nat) := (true, [([], []), ([0], [0]), ([], []), ([2], [2]), ([1, 3], [1, 3]), ([], []), ([5], [5]), ([], []), ([7], [7]), ([6, 8, 4], [6, 8]), ([], []), ([], []), ([10, 4, 9, 0, 1, 2, 3, 4, 10, 11], [4, 10]), ([11, 9, 12, 0, 1, 2, 3, 4, 5, 6, 7, 8, 9, 10, 11, 12], [9, 11])])
def ratio_Cmp.B3 : List Nat := [0, 1, 0, 4, 15, 0, 32, 0, 128, 511, 0, 0, 4095, 8191]
theorem ratio_Cmp.tab3 : rtab .any (opsOf Tryd.f11 3) = ratio_Cmp.T3 := by kernel_rfl
theorem ratio_Cmp.bits3 : waitsOk ratio_Cmp.T3.2 ratio_Cmp.B3 = true := by kernel_rfl
set_option maxHeartbeats 8000000 in
set_option maxRecDepth 100000 in
theorem ratio_Cmp.calls (k : Nat) (a0_0 : Int) (a0_1 : Int) (a1_0 : Int) (a1_1 : Int) (r1 : Int) (r2 : Int) (w : World) (hG : Glob w) (h : ratio_Cmp.f k a0_0 a0_1 a1_0 a1_1 = some (r1, r2)) :
  Calls Tryd.prog 11 #[.agg #[.int .i64 a0_0, .int .i64 a0_1], .agg #[.int .i64 a1_0, .int .i64 a1_1]] w fun e w' => e = .returned (.tuple #[.int .i64 r1, .int .i64 r2]) ∧ Below w.heap.size w w' := by
 have hu24 := Tryd.underlying24
 have hu49 := Tryd.underlying49
 have hu47 := Tryd.underlying47
 have HB := Aside0.mk (Below.refl w.heap.size w)
 have H : ((ratio_May.f k a0_0 a0_1).bind fun t281 => (if t281 = true then ((ratio_May.f k a1_0 a1_1).bind fun t282 => (ratio_Cmp.j0 k (!t282) a0_0 a0_1 a1_0 a1_1)) else (ratio_Cmp.j0 k true a0_0 a0_1 a1_0 a1_1))) = some (r1, r2) := h
 clear h
 have HC3 := Aside0.mk H
 clear H
 go_enter Tryd.func11, Tryd.ntmps11
 go_upto_region 1 with (first | ((with_reducible refine gate_dst (N := 2) rfl ?_); refine box_event ?hg (N := 2) ?hd (cs := #[.int .i64 a0_0, .int .i64 a0_1]) (t := 24) ?hr ?_; (case hd => rfl); (case hg => rfl); (case hr => exact gs_); intro gb279 hg w4 hbox hb; have BK279 := Aside0.mk (hbox); have GW279 := Aside0.mk ((by rw [hg]; exact (below_size (bl HB)) : w.heap.size ≤ gb279)); have GE279 := Aside0.mk ((by rw [hg]; exact (below_size (bl HB)) : w.heap.size ≤ gb279)); replace HB := Aside0.mk (below_step (bl HB) hb); clear hb hbox hg) | ((with_reducible refine gate_dst (N := 3) rfl ?_); refine box_event ?hg (N := 3) ?hd (cs := #[.int .i64 a1_0, .int .i64 a1_1]) (t := 24) ?hr ?_; (case hd => rfl); (case hg => rfl); (case hr => exact gs_); intro gb280 hg w5 hbox hb; have BK280 := Aside0.mk (hbox); have GW280 := Aside0.mk ((by rw [hg]; exact (below_size (bl HB)) : w.heap.size ≤ gb280)); have GE280 := Aside0.mk ((by rw [hg]; exact (below_size (bl HB)) : w.heap.size ≤ gb280)); replace HB := Aside0.mk (below_step (bl HB) hb); have NB279_280 := Aside0.mk ((by rw [hg]; exact Nat.ne_of_lt (blk_lt (kb BK279)) : gb279 ≠ gb280)); have NB280_279 := Aside0.mk ((by rw [hg]; exact Nat.ne_of_gt (blk_lt (kb BK279)) : gb280 ≠ gb279)); replace BK279 := Aside0.mk (blk_below (kb BK279) hb); clear hb hbox hg))
 (try simp only [Act.put, List.setIfInBounds_toArray, List.set_cons_zero, List.set_cons_succ])
 go_cut [15] (fun v15 wc => ∃ (kq : Nat) (x15_2 : Bool), v15 = .bool x15_2 ∧ Aside0 (ratio_Cmp.j0 kq x15_2 a0_0 a0_1 a1_0 a1_1 = some (r1, r2)) ∧ Aside0 (kq ≤ k) ∧ Aside0 (wc.heap[gb279]? = some (.cells #[.int .i64 a0_0, .int .i64 a0_1] 24 (0, 0))) ∧ Aside0 (wc.heap[gb280]? = some (.cells #[.int .i64 a1_0, .int .i64 a1_1] 24 (0, 0))) ∧ Aside0 (Below w.heap.size w wc))
 case first =>
  have H := HC3.out
  clear HC3
  replace H := Option.bind_eq_some_iff.mp H
  obtain ⟨t281, A60, H⟩ := H
  replace H : (if t281 = true then ((ratio_May.f k a1_0 a1_1).bind fun t282 => (ratio_Cmp.j0 k (!t282) a0_0 a0_1 a1_0 a1_1)) else (ratio_Cmp.j0 k true a0_0 a0_1 a1_0 a1_1)) = some (r1, r2) := H
  have A6 := Aside0.mk A60
  clear A60
  by_cases c7 : t281 = true
  ·subst c7
   have H1 : ((ratio_May.f k a1_0 a1_1).bind fun t282 => (ratio_Cmp.j0 k (!t282) a0_0 a0_1 a1_0 a1_1)) = some (r1, r2) := by rw [if_pos rfl] at H; exact H
   clear H
   have H := H1
   clear H1
   replace H := Option.bind_eq_some_iff.mp H
   obtain ⟨t282, A80, H⟩ := H
   replace H : (ratio_Cmp.j0 k (!t282) a0_0 a0_1 a1_0 a1_1) = some (r1, r2) := H
   have A8 := Aside0.mk A80
   clear A80
   have H' := Aside0.mk H
   clear H
   have hnb9 := NB279_280.out
   have hnc9 := NB280_279.out
   have hcz10_0 := ck BK279 0
   have hcz10_1 := ck BK279 1
   have hfz10_0 := blk_frozen BK279.out 0
   have hfz10_1 := blk_frozen BK279.out 1
   go_wp2_with (first | ((with_reducible refine gate_callee (f := 9) rfl ?_); refine goesL_ (some 9) rfl rfl Tryd.func9 (by kernel_rfl) rfl #[.agg #[.int .i64 a0_0, .int .i64 a0_1]] rfl gm_ ?_; (with_reducible refine (ratio_May.calls k a0_0 a0_1 true _ ?side1 A6.out).mono ?_); (case side1 => exact Glob.step hG (bl HB)); rintro e w11 ⟨rfl, hb⟩; refine ⟨_, rfl, ?_⟩; replace BK279 := Aside0.mk (blk_below (kb BK279) hb); replace BK280 := Aside0.mk (blk_below (kb BK280) hb); replace HB := Aside0.mk (below_step (bl HB) hb); (try clear hb); (try clear hb2); (try clear hk); (try clear hi); have hcz12_0 := ck BK280 0; have hcz12_1 := ck BK280 1; have hfz12_0 := blk_frozen BK280.out 0; have hfz12_1 := blk_frozen BK280.out 1) | (go_at_call 9; (with_reducible refine (ratio_May.calls k a1_0 a1_1 t282 _ ?side1 A8.out).mono ?_); (case side1 => exact Glob.step hG (bl HB)); rintro e w13 ⟨rfl, hb⟩; replace BK279 := Aside0.mk (blk_below (kb BK279) hb); replace BK280 := Aside0.mk (blk_below (kb BK280) hb); replace HB := Aside0.mk (below_step (bl HB) hb); (try clear hb); (try clear hb2); (try clear hk); (try clear hi)))
   go_meet
   case rel => exact ⟨_, (!t282), (by first | rfl | (simp; done) | (simp [*]; done)), H', ⟨by first | omega | exact Nat.le_refl _⟩, ⟨kb BK279⟩, ⟨kb BK280⟩, ⟨bl HB⟩⟩
  ·replace c7 := Bool.eq_false_iff.mpr c7
   subst c7
   have H1 : (ratio_Cmp.j0 k true a0_0 a0_1 a1_0 a1_1) = some (r1, r2) := by rw [if_neg (show ¬ (false = true) by decide)] at H; exact H
   clear H
   have H := H1
   clear H1
   have H' := Aside0.mk H
   clear H
   have hnb14 := NB279_280.out
   have hnc14 := NB280_279.out
   have hcz15_0 := ck BK279 0
   have hcz15_1 := ck BK279 1
   have hfz15_0 := blk_frozen BK279.out 0
   have hfz15_1 := blk_frozen BK279.out 1
   go_wp2_with (first | ((with_reducible refine gate_callee (f := 9) rfl ?_); refine goesL_ (some 9) rfl rfl Tryd.func9 (by kernel_rfl) rfl #[.agg #[.int .i64 a0_0, .int .i64 a0_1]] rfl gm_ ?_; (with_reducible refine (ratio_May.calls k a0_0 a0_1 false _ ?side1 A6.out).mono ?_); (case side1 => exact Glob.step hG (bl HB)); rintro e w16 ⟨rfl, hb⟩; refine ⟨_, rfl, ?_⟩; replace BK279 := Aside0.mk (blk_below (kb BK279) hb); replace BK280 := Aside0.mk (blk_below (kb BK280) hb); replace HB := Aside0.mk (below_step (bl HB) hb); (try clear hb); (try clear hb2); (try clear hk); (try clear hi)))
   go_meet
   case rel => exact ⟨_, (true), (by first | rfl | (simp; done) | (simp [*]; done)), H', ⟨by first | omega | exact Nat.le_refl _⟩, ⟨kb BK279⟩, ⟨kb BK280⟩, ⟨bl HB⟩⟩
 case rest =>
  clear HC3
  try clear c1
  try clear p2
  try clear c7
  try clear c9
  try clear c11
  try clear c14
  try clear hcz10_0
  try clear hcz10_1
  try clear hcz12_0
  try clear hcz12_1
  try clear hcz15_0
  try clear hcz15_1
  try clear hfz10_0
  try clear hfz10_1
  try clear hfz12_0
  try clear hfz12_1
  try clear hfz15_0
  try clear hfz15_1
  obtain ⟨kq, x15_2, rfl, HA, HJ2, BK279, BK280, HB⟩ := hcut
  cases kq with
  | zero => exact absurd HA.out (by simp [ratio_Cmp.j0])
  | succ kj2 =>
   have H := HA.out
   clear HA
   simp only [ratio_Cmp.j0] at H
   by_cases c17 : x15_2 = true
   ·subst c17
    have H1 : (some (0, 1)) = some (r1, r2) := by rw [if_pos rfl] at H; exact H
    clear H
    have H := H1
    clear H1
    simp only [Option.some.injEq, Prod.mk.injEq] at H
    obtain ⟨rfl, rfl⟩ := H
    go_wp2
    go_ret2
    exact ⟨by first | rfl | (simp [errW_none, errW_some] <;> rfl) | (simp [*, errW_none, errW_some] <;> rfl), bl HB⟩
   ·replace c17 := Bool.eq_false_iff.mpr c17
    subst c17
    have H1 : ((ratio_times.f a0_0 a1_1).bind fun bt283 => ((ratio_times.f a1_0 a0_1).bind fun bt286 => (if (bt283.2.1 == 0 && (bt283.2.2 == 0)) = true then (ratio_Cmp.j1 kj2 (bt286.2.1 == 0 && (bt286.2.2 == 0)) a0_0 a0_1 a1_0 a1_1 bt283.1 bt283.2.1 bt283.2.2 bt286.1 bt286.2.1 bt286.2.2) else (ratio_Cmp.j1 kj2 false a0_0 a0_1 a1_0 a1_1 bt283.1 bt283.2.1 bt283.2.2 bt286.1 bt286.2.1 bt286.2.2)))) = some (r1, r2) := by rw [if_neg (show ¬ (false = true) by decide)] at H; exact H
    clear H
    have H := H1
    clear H1
    replace H := Option.bind_eq_some_iff.mp H
    obtain ⟨⟨t283, t284, t285⟩, A180, H⟩ := H
    replace H : ((ratio_times.f a1_0 a0_1).bind fun bt286 => (if (t284 == 0 && (t285 == 0)) = true then (ratio_Cmp.j1 kj2 (bt286.2.1 == 0 && (bt286.2.2 == 0)) a0_0 a0_1 a1_0 a1_1 t283 t284 t285 bt286.1 bt286.2.1 bt286.2.2) else (ratio_Cmp.j1 kj2 false a0_0 a0_1 a1_0 a1_1 t283 t284 t285 bt286.1 bt286.2.1 bt286.2.2))) = some (r1, r2) := H
    have A18 := Aside0.mk A180
    clear A180
    replace H := Option.bind_eq_some_iff.mp H
    obtain ⟨⟨t286, t287, t288⟩, A190, H⟩ := H
    replace H : (if (t284 == 0 && (t285 == 0)) = true then (ratio_Cmp.j1 kj2 (t287 == 0 && (t288 == 0)) a0_0 a0_1 a1_0 a1_1 t283 t284 t285 t286 t287 t288) else (ratio_Cmp.j1 kj2 false a0_0 a0_1 a1_0 a1_1 t283 t284 t285 t286 t287 t288)) = some (r1, r2) := H
    have A19 := Aside0.mk A190
    clear A190
    have HC20 := Aside0.mk H
    clear H
    try go_wp2
    replace BK279 := Aside0.mk (blk_drew BK279.out)
    replace BK280 := Aside0.mk (blk_drew BK280.out)
    replace HB := Aside0.mk (below_drew1 HB.out)
    refine start_ (n := 14) (S := fun w' => w'.cell? ⟨gb279, 0, none⟩ = some (.int .i64 a0_0) ∧ w'.cell? ⟨gb279, 1, none⟩ = some (.int .i64 a0_1) ∧ w'.cell? ⟨gb280, 0, none⟩ = some (.int .i64 a1_0) ∧ w'.cell? ⟨gb280, 1, none⟩ = some (.int .i64 a1_1)) (ds := []) #[false, false, false, false, false, false, false, false, false, false, false, false, false, false] (by kernel_rfl) rfl rfl ⟨ck BK279 0, ck BK279 1, ck BK280 0, ck BK280 1⟩ (fun hHeld => ?_); refine with_tabW ratio_Cmp.tab3 ratio_Cmp.bits3 (fun HT_ HW_ => ?_)
    generalize wc.drew = w21 at BK279 BK280 HB hHeld ⊢
    refine pure_ (i := 0) (N := some 16) (v := ?_) (a' := ?_) #[true, false, false, false, false, false, false, false, false, false, false, false, false, false] rfl rfl (any_of HT_.out (by kernel_rfl)) (fun _ _ _ h => h) (Or.inl ⟨by rfl, ?_⟩) ?_ ?_
    rotate_left
    ·intro w'
     go_simp
     with_reducible rfl
    rotate_left
    ·simp only [Act.put, List.setIfInBounds_toArray, List.set_cons_zero, List.set_cons_succ, i64_w, i32_w]
     rfl
    refine pure_ (i := 2) (N := some 18) (v := ?_) (a' := ?_) #[true, false, true, false, false, false, false, false, false, false, false, false, false, false] rfl rfl (any_of HT_.out (by kernel_rfl)) (fun _ _ _ h => h) (Or.inl ⟨by rfl, ?_⟩) ?_ ?_
    rotate_left
    ·intro w'
     go_simp
     with_reducible rfl
    rotate_left
    ·simp only [Act.put, List.setIfInBounds_toArray, List.set_cons_zero, List.set_cons_succ, i64_w, i32_w]
     rfl
    refine pure_ (i := 5) (N := some 21) (v := ?_) (a' := ?_) #[true, false, true, false, false, true, false, false, false, false, false, false, false, false] rfl rfl (any_of HT_.out (by kernel_rfl)) (fun _ _ _ h => h) (Or.inl ⟨by rfl, ?_⟩) ?_ ?_
    rotate_left
    ·intro w'
     go_simp
     with_reducible rfl
    rotate_left
    ·simp only [Act.put, List.setIfInBounds_toArray, List.set_cons_zero, List.set_cons_succ, i64_w, i32_w]
     rfl
    refine pure_ (i := 7) (N := some 23) (v := ?_) (a' := ?_) #[true, false, true, false, false, true, false, true, false, false, false, false, false, false] rfl rfl (any_of HT_.out (by kernel_rfl)) (fun _ _ _ h => h) (Or.inl ⟨by rfl, ?_⟩) ?_ ?_
    rotate_left
    ·intro w'
     go_simp
     with_reducible rfl
    rotate_left
    ·simp only [Act.put, List.setIfInBounds_toArray, List.set_cons_zero, List.set_cons_succ, i64_w, i32_w]
     rfl
    refine take_ (i := 1) (N := some 17) (v := ?_) (a' := ?_) #[true, true, true, false, false, true, false, true, false, false, false, false, false, false] rfl rfl (take_ofW HT_.out HW_.out (by kernel_rfl)) (fun _ _ _ h => h) (Or.inl ⟨by rfl, ?_⟩) hHeld ?_ ?_
    rotate_left
    ·rintro w' ⟨s0, s1, s2, s3⟩
     go_simp
     with_reducible rfl
    rotate_left
    ·simp only [Act.put, List.setIfInBounds_toArray, List.set_cons_zero, List.set_cons_succ, i64_w, i32_w]
     rfl
    refine take_ (i := 3) (N := some 19) (v := ?_) (a' := ?_) #[true, true, true, true, false, true, false, true, false, false, false, false, false, false] rfl rfl (take_ofW HT_.out HW_.out (by kernel_rfl)) (fun _ _ _ h => h) (Or.inl ⟨by rfl, ?_⟩) hHeld ?_ ?_
    rotate_left
    ·rintro w' ⟨s0, s1, s2, s3⟩
     go_simp
     with_reducible rfl
    rotate_left
    ·simp only [Act.put, List.setIfInBounds_toArray, List.set_cons_zero, List.set_cons_succ, i64_w, i32_w]
     rfl
    refine take_ (i := 6) (N := some 22) (v := ?_) (a' := ?_) #[true, true, true, true, false, true, true, true, false, false, false, false, false, false] rfl rfl (take_ofW HT_.out HW_.out (by kernel_rfl)) (fun _ _ _ h => h) (Or.inl ⟨by rfl, ?_⟩) hHeld ?_ ?_
    rotate_left
    ·rintro w' ⟨s0, s1, s2, s3⟩
     go_simp
     with_reducible rfl
    rotate_left
    ·simp only [Act.put, List.setIfInBounds_toArray, List.set_cons_zero, List.set_cons_succ, i64_w, i32_w]
     rfl
    refine take_ (i := 8) (N := some 24) (v := ?_) (a' := ?_) #[true, true, true, true, false, true, true, true, true, false, false, false, false, false] rfl rfl (take_ofW HT_.out HW_.out (by kernel_rfl)) (fun _ _ _ h => h) (Or.inl ⟨by rfl, ?_⟩) hHeld ?_ ?_
    rotate_left
    ·rintro w' ⟨s0, s1, s2, s3⟩
     go_simp
     with_reducible rfl
    rotate_left
    ·simp only [Act.put, List.setIfInBounds_toArray, List.set_cons_zero, List.set_cons_succ, i64_w, i32_w]
     rfl
    refine join_ (σ := Nat × Nat) 2 #[true, true, true, true, true, true, true, true, true, true, true, true, false, false] (fun s_ => [(20, .agg #[.bool t283, .int .u64 t284, .int .u64 t285]), (25, .agg #[.bool t286, .int .u64 t287, .int .u64 t288]), (6, .pointer (some ⟨s_.1, 0, none⟩)), (7, .pointer (some ⟨s_.2, 0, none⟩))]) (fun s_ w' => (w'.cell? ⟨gb279, 0, none⟩ = some (.int .i64 a0_0) ∧ w'.cell? ⟨gb279, 1, none⟩ = some (.int .i64 a0_1) ∧ w'.cell? ⟨gb280, 0, none⟩ = some (.int .i64 a1_0) ∧ w'.cell? ⟨gb280, 1, none⟩ = some (.int .i64 a1_1)) ∧ (w'.heap[gb279]? = some (.cells #[.int .i64 a0_0, .int .i64 a0_1] 24 (0, 0))) ∧ (w'.heap[gb280]? = some (.cells #[.int .i64 a1_0, .int .i64 a1_1] 24 (0, 0))) ∧ (w'.heap[s_.1]? = some (.cells #[.bool false, .int .u64 0, .int .u64 0] 49 (0, 0))) ∧ (w'.heap[s_.2]? = some (.cells #[.bool false, .int .u64 0, .int .u64 0] 49 (0, 0))) ∧ (w.heap.size ≤ s_.1) ∧ (w.heap.size ≤ s_.1) ∧ (gb279 ≠ s_.1) ∧ (s_.1 ≠ gb279) ∧ (gb280 ≠ s_.1) ∧ (s_.1 ≠ gb280) ∧ (s_.2 ≠ s_.1) ∧ (s_.1 ≠ s_.2) ∧ (w.heap.size ≤ s_.2) ∧ (w.heap.size ≤ s_.2) ∧ (gb279 ≠ s_.2) ∧ (s_.2 ≠ gb279) ∧ (gb280 ≠ s_.2) ∧ (s_.2 ≠ gb280) ∧ (Below w.heap.size w w')) ?_ ?_
    rotate_left
    ·intro hJ4_9_10_11
     refine join_ (σ := Nat) 3 #[true, true, true, true, true, true, true, true, true, true, true, false, false, false] (fun s_ => [(20, .agg #[.bool t283, .int .u64 t284, .int .u64 t285]), (25, .agg #[.bool t286, .int .u64 t287, .int .u64 t288]), (6, .pointer (some ⟨s_, 0, none⟩))]) (fun s_ w' => (w'.cell? ⟨gb279, 0, none⟩ = some (.int .i64 a0_0) ∧ w'.cell? ⟨gb279, 1, none⟩ = some (.int .i64 a0_1) ∧ w'.cell? ⟨gb280, 0, none⟩ = some (.int .i64 a1_0) ∧ w'.cell? ⟨gb280, 1, none⟩ = some (.int .i64 a1_1)) ∧ (w'.heap[gb279]? = some (.cells #[.int .i64 a0_0, .int .i64 a0_1] 24 (0, 0))) ∧ (w'.heap[gb280]? = some (.cells #[.int .i64 a1_0, .int .i64 a1_1] 24 (0, 0))) ∧ (w'.heap[s_]? = some (.cells #[.bool false, .int .u64 0, .int .u64 0] 49 (0, 0))) ∧ (w.heap.size ≤ s_) ∧ (w.heap.size ≤ s_) ∧ (gb279 ≠ s_) ∧ (s_ ≠ gb279) ∧ (gb280 ≠ s_) ∧ (s_ ≠ gb280) ∧ (Below w.heap.size w w')) ?_ ?_
     rotate_left
     ·intro hJ4_9_10
      refine join_ (σ := Nat) 3 #[true, true, true, true, true, true, true, true, true, true, false, true, false, false] (fun s_ => [(20, .agg #[.bool t283, .int .u64 t284, .int .u64 t285]), (25, .agg #[.bool t286, .int .u64 t287, .int .u64 t288]), (7, .pointer (some ⟨s_, 0, none⟩))]) (fun s_ w' => (w'.cell? ⟨gb279, 0, none⟩ = some (.int .i64 a0_0) ∧ w'.cell? ⟨gb279, 1, none⟩ = some (.int .i64 a0_1) ∧ w'.cell? ⟨gb280, 0, none⟩ = some (.int .i64 a1_0) ∧ w'.cell? ⟨gb280, 1, none⟩ = some (.int .i64 a1_1)) ∧ (w'.heap[gb279]? = some (.cells #[.int .i64 a0_0, .int .i64 a0_1] 24 (0, 0))) ∧ (w'.heap[gb280]? = some (.cells #[.int .i64 a1_0, .int .i64 a1_1] 24 (0, 0))) ∧ (w'.heap[s_]? = some (.cells #[.bool false, .int .u64 0, .int .u64 0] 49 (0, 0))) ∧ (w.heap.size ≤ s_) ∧ (w.heap.size ≤ s_) ∧ (gb279 ≠ s_) ∧ (s_ ≠ gb279) ∧ (gb280 ≠ s_) ∧ (s_ ≠ gb280) ∧ (Below w.heap.size w w')) ?_ ?_
      rotate_left
      ·intro hJ4_9_11
       refine join_ (σ := Nat × Nat) 3 #[true, true, true, true, true, true, true, true, true, false, true, true, false, false] (fun s_ => [(20, .agg #[.bool t283, .int .u64 t284, .int .u64 t285]), (6, .pointer (some ⟨s_.1, 0, none⟩)), (7, .pointer (some ⟨s_.2, 0, none⟩))]) (fun s_ w' => (w'.cell? ⟨gb279, 0, none⟩ = some (.int .i64 a0_0) ∧ w'.cell? ⟨gb279, 1, none⟩ = some (.int .i64 a0_1) ∧ w'.cell? ⟨gb280, 0, none⟩ = some (.int .i64 a1_0) ∧ w'.cell? ⟨gb280, 1, none⟩ = some (.int .i64 a1_1)) ∧ (w'.heap[gb279]? = some (.cells #[.int .i64 a0_0, .int .i64 a0_1] 24 (0, 0))) ∧ (w'.heap[gb280]? = some (.cells #[.int .i64 a1_0, .int .i64 a1_1] 24 (0, 0))) ∧ (w'.heap[s_.1]? = some (.cells #[.bool false, .int .u64 0, .int .u64 0] 49 (0, 0))) ∧ (w'.heap[s_.2]? = some (.cells #[.bool false, .int .u64 0, .int .u64 0] 49 (0, 0))) ∧ (w.heap.size ≤ s_.1) ∧ (w.heap.size ≤ s_.1) ∧ (gb279 ≠ s_.1) ∧ (s_.1 ≠ gb279) ∧ (gb280 ≠ s_.1) ∧ (s_.1 ≠ gb280) ∧ (s_.2 ≠ s_.1) ∧ (s_.1 ≠ s_.2) ∧ (w.heap.size ≤ s_.2) ∧ (w.heap.size ≤ s_.2) ∧ (gb279 ≠ s_.2) ∧ (s_.2 ≠ gb279) ∧ (gb280 ≠ s_.2) ∧ (s_.2 ≠ gb280) ∧ (Below w.heap.size w w')) ?_ ?_
       rotate_left
       ·intro hJ4_10_11
        refine join_ (σ := Unit) 4 #[true, true, true, true, true, true, true, true, true, true, false, false, false, false] (fun s_ => [(20, .agg #[.bool t283, .int .u64 t284, .int .u64 t285]), (25, .agg #[.bool t286, .int .u64 t287, .int .u64 t288])]) (fun s_ w' => (w'.cell? ⟨gb279, 0, none⟩ = some (.int .i64 a0_0) ∧ w'.cell? ⟨gb279, 1, none⟩ = some (.int .i64 a0_1) ∧ w'.cell? ⟨gb280, 0, none⟩ = some (.int .i64 a1_0) ∧ w'.cell? ⟨gb280, 1, none⟩ = some (.int .i64 a1_1)) ∧ (w'.heap[gb279]? = some (.cells #[.int .i64 a0_0, .int .i64 a0_1] 24 (0, 0))) ∧ (w'.heap[gb280]? = some (.cells #[.int .i64 a1_0, .int .i64 a1_1] 24 (0, 0))) ∧ (Below w.heap.size w w')) ?_ ?_
        rotate_left
        ·intro hJ4_9
         refine join_ (σ := Nat) 4 #[true, true, true, true, true, true, true, true, true, false, true, false, false, false] (fun s_ => [(20, .agg #[.bool t283, .int .u64 t284, .int .u64 t285]), (6, .pointer (some ⟨s_, 0, none⟩))]) (fun s_ w' => (w'.cell? ⟨gb279, 0, none⟩ = some (.int .i64 a0_0) ∧ w'.cell? ⟨gb279, 1, none⟩ = some (.int .i64 a0_1) ∧ w'.cell? ⟨gb280, 0, none⟩ = some (.int .i64 a1_0) ∧ w'.cell? ⟨gb280, 1, none⟩ = some (.int .i64 a1_1)) ∧ (w'.heap[gb279]? = some (.cells #[.int .i64 a0_0, .int .i64 a0_1] 24 (0, 0))) ∧ (w'.heap[gb280]? = some (.cells #[.int .i64 a1_0, .int .i64 a1_1] 24 (0, 0))) ∧ (w'.heap[s_]? = some (.cells #[.bool false, .int .u64 0, .int .u64 0] 49 (0, 0))) ∧ (w.heap.size ≤ s_) ∧ (w.heap.size ≤ s_) ∧ (gb279 ≠ s_) ∧ (s_ ≠ gb279) ∧ (gb280 ≠ s_) ∧ (s_ ≠ gb280) ∧ (Below w.heap.size w w')) ?_ ?_
         rotate_left
         ·intro hJ4_10
          refine join_ (σ := Nat) 4 #[true, true, true, true, true, true, true, true, true, false, false, true, false, false] (fun s_ => [(20, .agg #[.bool t283, .int .u64 t284, .int .u64 t285]), (7, .pointer (some ⟨s_, 0, none⟩))]) (fun s_ w' => (w'.cell? ⟨gb279, 0, none⟩ = some (.int .i64 a0_0) ∧ w'.cell? ⟨gb279, 1, none⟩ = some (.int .i64 a0_1) ∧ w'.cell? ⟨gb280, 0, none⟩ = some (.int .i64 a1_0) ∧ w'.cell? ⟨gb280, 1, none⟩ = some (.int .i64 a1_1)) ∧ (w'.heap[gb279]? = some (.cells #[.int .i64 a0_0, .int .i64 a0_1] 24 (0, 0))) ∧ (w'.heap[gb280]? = some (.cells #[.int .i64 a1_0, .int .i64 a1_1] 24 (0, 0))) ∧ (w'.heap[s_]? = some (.cells #[.bool false, .int .u64 0, .int .u64 0] 49 (0, 0))) ∧ (w.heap.size ≤ s_) ∧ (w.heap.size ≤ s_) ∧ (gb279 ≠ s_) ∧ (s_ ≠ gb279) ∧ (gb280 ≠ s_) ∧ (s_ ≠ gb280) ∧ (Below w.heap.size w w')) ?_ ?_
          rotate_left
          ·intro hJ4_11
           refine join_ (σ := Nat × Nat) 4 #[true, true, true, true, false, true, true, true, true, false, true, true, false, false] (fun s_ => [(6, .pointer (some ⟨s_.1, 0, none⟩)), (7, .pointer (some ⟨s_.2, 0, none⟩))]) (fun s_ w' => (w'.cell? ⟨gb279, 0, none⟩ = some (.int .i64 a0_0) ∧ w'.cell? ⟨gb279, 1, none⟩ = some (.int .i64 a0_1) ∧ w'.cell? ⟨gb280, 0, none⟩ = some (.int .i64 a1_0) ∧ w'.cell? ⟨gb280, 1, none⟩ = some (.int .i64 a1_1)) ∧ (w'.heap[gb279]? = some (.cells #[.int .i64 a0_0, .int .i64 a0_1] 24 (0, 0))) ∧ (w'.heap[gb280]? = some (.cells #[.int .i64 a1_0, .int .i64 a1_1] 24 (0, 0))) ∧ (w'.heap[s_.1]? = some (.cells #[.bool false, .int .u64 0, .int .u64 0] 49 (0, 0))) ∧ (w'.heap[s_.2]? = some (.cells #[.bool false, .int .u64 0, .int .u64 0] 49 (0, 0))) ∧ (w.heap.size ≤ s_.1) ∧ (w.heap.size ≤ s_.1) ∧ (gb279 ≠ s_.1) ∧ (s_.1 ≠ gb279) ∧ (gb280 ≠ s_.1) ∧ (s_.1 ≠ gb280) ∧ (s_.2 ≠ s_.1) ∧ (s_.1 ≠ s_.2) ∧ (w.heap.size ≤ s_.2) ∧ (w.heap.size ≤ s_.2) ∧ (gb279 ≠ s_.2) ∧ (s_.2 ≠ gb279) ∧ (gb280 ≠ s_.2) ∧ (s_.2 ≠ gb280) ∧ (Below w.heap.size w w')) ?_ ?_
           rotate_left
           ·intro hJ10_11
            refine join_ (σ := Unit) 5 #[true, true, true, true, true, true, true, true, true, false, false, false, false, false] (fun s_ => [(20, .agg #[.bool t283, .int .u64 t284, .int .u64 t285])]) (fun s_ w' => (w'.cell? ⟨gb279, 0, none⟩ = some (.int .i64 a0_0) ∧ w'.cell? ⟨gb279, 1, none⟩ = some (.int .i64 a0_1) ∧ w'.cell? ⟨gb280, 0, none⟩ = some (.int .i64 a1_0) ∧ w'.cell? ⟨gb280, 1, none⟩ = some (.int .i64 a1_1)) ∧ (w'.heap[gb279]? = some (.cells #[.int .i64 a0_0, .int .i64 a0_1] 24 (0, 0))) ∧ (w'.heap[gb280]? = some (.cells #[.int .i64 a1_0, .int .i64 a1_1] 24 (0, 0))) ∧ (Below w.heap.size w w')) ?_ ?_
            rotate_left
            ·intro hJ4
             refine join_ (σ := Nat) 5 #[true, true, true, true, false, true, true, true, true, false, true, false, false, false] (fun s_ => [(6, .pointer (some ⟨s_, 0, none⟩))]) (fun s_ w' => (w'.cell? ⟨gb279, 0, none⟩ = some (.int .i64 a0_0) ∧ w'.cell? ⟨gb279, 1, none⟩ = some (.int .i64 a0_1) ∧ w'.cell? ⟨gb280, 0, none⟩ = some (.int .i64 a1_0) ∧ w'.cell? ⟨gb280, 1, none⟩ = some (.int .i64 a1_1)) ∧ (w'.heap[gb279]? = some (.cells #[.int .i64 a0_0, .int .i64 a0_1] 24 (0, 0))) ∧ (w'.heap[gb280]? = some (.cells #[.int .i64 a1_0, .int .i64 a1_1] 24 (0, 0))) ∧ (w'.heap[s_]? = some (.cells #[.bool false, .int .u64 0, .int .u64 0] 49 (0, 0))) ∧ (w.heap.size ≤ s_) ∧ (w.heap.size ≤ s_) ∧ (gb279 ≠ s_) ∧ (s_ ≠ gb279) ∧ (gb280 ≠ s_) ∧ (s_ ≠ gb280) ∧ (Below w.heap.size w w')) ?_ ?_
             rotate_left
             ·intro hJ10
              refine join_ (σ := Nat) 5 #[true, true, true, true, false, true, true, true, true, false, false, true, false, false] (fun s_ => [(7, .pointer (some ⟨s_, 0, none⟩))]) (fun s_ w' => (w'.cell? ⟨gb279, 0, none⟩ = some (.int .i64 a0_0) ∧ w'.cell? ⟨gb279, 1, none⟩ = some (.int .i64 a0_1) ∧ w'.cell? ⟨gb280, 0, none⟩ = some (.int .i64 a1_0) ∧ w'.cell? ⟨gb280, 1, none⟩ = some (.int .i64 a1_1)) ∧ (w'.heap[gb279]? = some (.cells #[.int .i64 a0_0, .int .i64 a0_1] 24 (0, 0))) ∧ (w'.heap[gb280]? = some (.cells #[.int .i64 a1_0, .int .i64 a1_1] 24 (0, 0))) ∧ (w'.heap[s_]? = some (.cells #[.bool false, .int .u64 0, .int .u64 0] 49 (0, 0))) ∧ (w.heap.size ≤ s_) ∧ (w.heap.size ≤ s_) ∧ (gb279 ≠ s_) ∧ (s_ ≠ gb279) ∧ (gb280 ≠ s_) ∧ (s_ ≠ gb280) ∧ (Below w.heap.size w w')) ?_ ?_
              rotate_left
              ·intro hJ11
               refine three_ (i := 4) (j := 10) (k := 11) (Ni := some 20) (Nj := some 6) (Nk := some 7) #[true, true, true, true, true, true, true, true, true, false, false, false, false, false] #[true, true, true, true, false, true, true, true, true, false, true, false, false, false] #[true, true, true, true, false, true, true, true, true, false, false, true, false, false] rfl rfl rfl rfl rfl rfl (three_of HT_.out (by kernel_rfl)) (by decide) (by decide) (by decide) (fun K hK => ?_) (fun K hK => ?_) (fun K hK => ?_)
               ·skip
                refine goes_ Tryd.func27 (by kernel_rfl) rfl #[.int .i64 a0_0, .int .i64 a1_1] (by rfl) rfl rfl gm_ ?_
                with_reducible refine (ratio_times.calls a0_0 a1_1 t283 t284 t285 _ A18.out).mono ?_
                rintro e w22 ⟨rfl, hb⟩
                refine ⟨_, rfl, ?_⟩
                replace BK279 := Aside0.mk (blk_below (kb BK279) hb)
                replace BK280 := Aside0.mk (blk_below (kb BK280) hb)
                replace HB := Aside0.mk (below_step (bl HB) hb)
                (try clear hb)
                (try clear hb2)
                (try clear hk)
                (try clear hi)
                refine hK.out _ _ ⟨ck BK279 0, ck BK279 1, ck BK280 0, ck BK280 1⟩ (fun hHeld => ?_)
                clear hK K
                refine norm_ (a' := ?_) ?_ ?_
                rotate_left
                ·show Act.put _ (some 20) _ = _
                 simp only [Act.put, List.setIfInBounds_toArray, List.set_cons_zero, List.set_cons_succ, i64_w, i32_w]
                 rfl
                exact norm_ nm_ (hJ4 () _ ⟨hHeld, (kb BK279), (kb BK280), (bl HB)⟩)
               ·skip
                refine box_step ?hg (N := 6) ?hd (cs := #[.bool false, .int .u64 0, .int .u64 0]) (t := 49) ?hr ?_; (case hd => rfl); (case hg => rfl); (case hr => exact gs_)
                intro gb289 hg w22 hbox hb
                have BK289 := Aside0.mk (hbox)
                have GW289 := Aside0.mk ((by rw [hg]; exact (below_size (bl HB)) : w.heap.size ≤ gb289))
                have GE289 := Aside0.mk ((by rw [hg]; exact (below_size (bl HB)) : w.heap.size ≤ gb289))
                replace HB := Aside0.mk (below_step (bl HB) hb)
                have NB279_289 := Aside0.mk ((by rw [hg]; exact Nat.ne_of_lt (blk_lt (kb BK279)) : gb279 ≠ gb289))
                have NB289_279 := Aside0.mk ((by rw [hg]; exact Nat.ne_of_gt (blk_lt (kb BK279)) : gb289 ≠ gb279))
                replace BK279 := Aside0.mk (blk_below (kb BK279) hb)
                have NB280_289 := Aside0.mk ((by rw [hg]; exact Nat.ne_of_lt (blk_lt (kb BK280)) : gb280 ≠ gb289))
                have NB289_280 := Aside0.mk ((by rw [hg]; exact Nat.ne_of_gt (blk_lt (kb BK280)) : gb289 ≠ gb280))
                replace BK280 := Aside0.mk (blk_below (kb BK280) hb)
                clear hb hbox hg
                refine hK.out _ _ ⟨ck BK279 0, ck BK279 1, ck BK280 0, ck BK280 1⟩ (fun hHeld => ?_)
                clear hK K
                refine norm_ (a' := ?_) ?_ ?_
                rotate_left
                ·show Act.put _ (some 6) _ = _
                 simp only [Act.put, List.setIfInBounds_toArray, List.set_cons_zero, List.set_cons_succ, i64_w, i32_w]
                 rfl
                exact norm_ nm_ (hJ10 (gb289) _ ⟨hHeld, (kb BK279), (kb BK280), (kb BK289), GW289.out, GE289.out, NB279_289.out, NB289_279.out, NB280_289.out, NB289_280.out, (bl HB)⟩)
               ·skip
                refine box_step ?hg (N := 7) ?hd (cs := #[.bool false, .int .u64 0, .int .u64 0]) (t := 49) ?hr ?_; (case hd => rfl); (case hg => rfl); (case hr => exact gs_)
                intro gb290 hg w22 hbox hb
                have BK290 := Aside0.mk (hbox)
                have GW290 := Aside0.mk ((by rw [hg]; exact (below_size (bl HB)) : w.heap.size ≤ gb290))
                have GE290 := Aside0.mk ((by rw [hg]; exact (below_size (bl HB)) : w.heap.size ≤ gb290))
                replace HB := Aside0.mk (below_step (bl HB) hb)
                have NB279_290 := Aside0.mk ((by rw [hg]; exact Nat.ne_of_lt (blk_lt (kb BK279)) : gb279 ≠ gb290))
                have NB290_279 := Aside0.mk ((by rw [hg]; exact Nat.ne_of_gt (blk_lt (kb BK279)) : gb290 ≠ gb279))
                replace BK279 := Aside0.mk (blk_below (kb BK279) hb)
                have NB280_290 := Aside0.mk ((by rw [hg]; exact Nat.ne_of_lt (blk_lt (kb BK280)) : gb280 ≠ gb290))
                have NB290_280 := Aside0.mk ((by rw [hg]; exact Nat.ne_of_gt (blk_lt (kb BK280)) : gb290 ≠ gb280))
                replace BK280 := Aside0.mk (blk_below (kb BK280) hb)
                clear hb hbox hg
                refine hK.out _ _ ⟨ck BK279 0, ck BK279 1, ck BK280 0, ck BK280 1⟩ (fun hHeld => ?_)
                clear hK K
                refine norm_ (a' := ?_) ?_ ?_
                rotate_left
                ·show Act.put _ (some 7) _ = _
                 simp only [Act.put, List.setIfInBounds_toArray, List.set_cons_zero, List.set_cons_succ, i64_w, i32_w]
                 rfl
                exact norm_ nm_ (hJ11 (gb290) _ ⟨hHeld, (kb BK279), (kb BK280), (kb BK290), GW290.out, GE290.out, NB279_290.out, NB290_279.out, NB280_290.out, NB290_280.out, (bl HB)⟩)
              ·skip
               rintro gb290 w23 ⟨hS_, h0_, h1_, h2_, h3_, h4_, h5_, h6_, h7_, h8_, h9_⟩
               have n0_ : Aside0 (w23.heap[gb279]? = some (.cells #[.int .i64 a0_0, .int .i64 a0_1] 24 (0, 0))) := ⟨h0_⟩
               have n1_ : Aside0 (w23.heap[gb280]? = some (.cells #[.int .i64 a1_0, .int .i64 a1_1] 24 (0, 0))) := ⟨h1_⟩
               have n2_ : Aside0 (w23.heap[gb290]? = some (.cells #[.bool false, .int .u64 0, .int .u64 0] 49 (0, 0))) := ⟨h2_⟩
               have n3_ : Aside0 (w.heap.size ≤ gb290) := ⟨h3_⟩
               have n4_ : Aside0 (w.heap.size ≤ gb290) := ⟨h4_⟩
               have n5_ : Aside0 (gb279 ≠ gb290) := ⟨h5_⟩
               have n6_ : Aside0 (gb290 ≠ gb279) := ⟨h6_⟩
               have n7_ : Aside0 (gb280 ≠ gb290) := ⟨h7_⟩
               have n8_ : Aside0 (gb290 ≠ gb280) := ⟨h8_⟩
               have n9_ : Aside0 (Below w.heap.size w w23) := ⟨h9_⟩
               clear BK279
               clear BK280
               clear HB
               clear h0_ h1_ h2_ h3_ h4_ h5_ h6_ h7_ h8_ h9_
               have BK279 := n0_
               have BK280 := n1_
               have BK290 := n2_
               have GW290 := n3_
               have GE290 := n4_
               have NB279_290 := n5_
               have NB290_279 := n6_
               have NB280_290 := n7_
               have NB290_280 := n8_
               have HB := n9_
               clear n0_ n1_ n2_ n3_ n4_ n5_ n6_ n7_ n8_ n9_
               have hHeld : w23.cell? ⟨gb279, 0, none⟩ = some (.int .i64 a0_0) ∧ w23.cell? ⟨gb279, 1, none⟩ = some (.int .i64 a0_1) ∧ w23.cell? ⟨gb280, 0, none⟩ = some (.int .i64 a1_0) ∧ w23.cell? ⟨gb280, 1, none⟩ = some (.int .i64 a1_1) := hS_
               refine norm_ (a' := ?_) ?_ ?_
               rotate_left
               ·simp only [putAll, Act.put, List.setIfInBounds_toArray, List.set_cons_zero, List.set_cons_succ]
                rfl
               refine two_ (i := 4) (j := 10) (Ni := some 20) (Nj := some 6) #[true, true, true, true, true, true, true, true, true, false, false, true, false, false] #[true, true, true, true, false, true, true, true, true, false, true, true, false, false] rfl rfl rfl rfl (two_of HT_.out (by kernel_rfl)) (by decide) (by decide) (fun K hK => ?_) (fun K hK => ?_)
               ·skip
                refine goes_ Tryd.func27 (by kernel_rfl) rfl #[.int .i64 a0_0, .int .i64 a1_1] (by rfl) rfl rfl gm_ ?_
                with_reducible refine (ratio_times.calls a0_0 a1_1 t283 t284 t285 _ A18.out).mono ?_
                rintro e w24 ⟨rfl, hb⟩
                refine ⟨_, rfl, ?_⟩
                replace BK279 := Aside0.mk (blk_below (kb BK279) hb)
                replace BK280 := Aside0.mk (blk_below (kb BK280) hb)
                replace BK290 := Aside0.mk (blk_below (kb BK290) hb)
                replace HB := Aside0.mk (below_step (bl HB) hb)
                (try clear hb)
                (try clear hb2)
                (try clear hk)
                (try clear hi)
                refine hK.out _ _ ⟨ck BK279 0, ck BK279 1, ck BK280 0, ck BK280 1⟩ (fun hHeld => ?_)
                clear hK K
                refine norm_ (a' := ?_) ?_ ?_
                rotate_left
                ·show Act.put _ (some 20) _ = _
                 simp only [Act.put, List.setIfInBounds_toArray, List.set_cons_zero, List.set_cons_succ, i64_w, i32_w]
                 rfl
                exact norm_ nm_ (hJ4_11 (gb290) _ ⟨hHeld, (kb BK279), (kb BK280), (kb BK290), GW290.out, GE290.out, NB279_290.out, NB290_279.out, NB280_290.out, NB290_280.out, (bl HB)⟩)
               ·skip
                refine box_step ?hg (N := 6) ?hd (cs := #[.bool false, .int .u64 0, .int .u64 0]) (t := 49) ?hr ?_; (case hd => rfl); (case hg => rfl); (case hr => exact gs_)
                intro gb289 hg w24 hbox hb
                have BK289 := Aside0.mk (hbox)
                have GW289 := Aside0.mk ((by rw [hg]; exact (below_size (bl HB)) : w.heap.size ≤ gb289))
                have GE289 := Aside0.mk ((by rw [hg]; exact (below_size (bl HB)) : w.heap.size ≤ gb289))
                replace HB := Aside0.mk (below_step (bl HB) hb)
                have NB279_289 := Aside0.mk ((by rw [hg]; exact Nat.ne_of_lt (blk_lt (kb BK279)) : gb279 ≠ gb289))
                have NB289_279 := Aside0.mk ((by rw [hg]; exact Nat.ne_of_gt (blk_lt (kb BK279)) : gb289 ≠ gb279))
                replace BK279 := Aside0.mk (blk_below (kb BK279) hb)
                have NB280_289 := Aside0.mk ((by rw [hg]; exact Nat.ne_of_lt (blk_lt (kb BK280)) : gb280 ≠ gb289))
                have NB289_280 := Aside0.mk ((by rw [hg]; exact Nat.ne_of_gt (blk_lt (kb BK280)) : gb289 ≠ gb280))
                replace BK280 := Aside0.mk (blk_below (kb BK280) hb)
                have NB290_289 := Aside0.mk ((by rw [hg]; exact Nat.ne_of_lt (blk_lt (kb BK290)) : gb290 ≠ gb289))
                have NB289_290 := Aside0.mk ((by rw [hg]; exact Nat.ne_of_gt (blk_lt (kb BK290)) : gb289 ≠ gb290))
                replace BK290 := Aside0.mk (blk_below (kb BK290) hb)
                clear hb hbox hg
                refine hK.out _ _ ⟨ck BK279 0, ck BK279 1, ck BK280 0, ck BK280 1⟩ (fun hHeld => ?_)
                clear hK K
                refine norm_ (a' := ?_) ?_ ?_
                rotate_left
                ·show Act.put _ (some 6) _ = _
                 simp only [Act.put, List.setIfInBounds_toArray, List.set_cons_zero, List.set_cons_succ, i64_w, i32_w]
                 rfl
                exact norm_ nm_ (hJ10_11 (gb289, gb290) _ ⟨hHeld, (kb BK279), (kb BK280), (kb BK289), (kb BK290), GW289.out, GE289.out, NB279_289.out, NB289_279.out, NB280_289.out, NB289_280.out, NB290_289.out, NB289_290.out, GW290.out, GE290.out, NB279_290.out, NB290_279.out, NB280_290.out, NB290_280.out, (bl HB)⟩)
             ·skip
              rintro gb289 w23 ⟨hS_, h0_, h1_, h2_, h3_, h4_, h5_, h6_, h7_, h8_, h9_⟩
              have n0_ : Aside0 (w23.heap[gb279]? = some (.cells #[.int .i64 a0_0, .int .i64 a0_1] 24 (0, 0))) := ⟨h0_⟩
              have n1_ : Aside0 (w23.heap[gb280]? = some (.cells #[.int .i64 a1_0, .int .i64 a1_1] 24 (0, 0))) := ⟨h1_⟩
              have n2_ : Aside0 (w23.heap[gb289]? = some (.cells #[.bool false, .int .u64 0, .int .u64 0] 49 (0, 0))) := ⟨h2_⟩
              have n3_ : Aside0 (w.heap.size ≤ gb289) := ⟨h3_⟩
              have n4_ : Aside0 (w.heap.size ≤ gb289) := ⟨h4_⟩
              have n5_ : Aside0 (gb279 ≠ gb289) := ⟨h5_⟩
              have n6_ : Aside0 (gb289 ≠ gb279) := ⟨h6_⟩
              have n7_ : Aside0 (gb280 ≠ gb289) := ⟨h7_⟩
              have n8_ : Aside0 (gb289 ≠ gb280) := ⟨h8_⟩
              have n9_ : Aside0 (Below w.heap.size w w23) := ⟨h9_⟩
              clear BK279
              clear BK280
              clear HB
              clear h0_ h1_ h2_ h3_ h4_ h5_ h6_ h7_ h8_ h9_
              have BK279 := n0_
              have BK280 := n1_
              have BK289 := n2_
              have GW289 := n3_
              have GE289 := n4_
              have NB279_289 := n5_
              have NB289_279 := n6_
              have NB280_289 := n7_
              have NB289_280 := n8_
              have HB := n9_
              clear n0_ n1_ n2_ n3_ n4_ n5_ n6_ n7_ n8_ n9_
              have hHeld : w23.cell? ⟨gb279, 0, none⟩ = some (.int .i64 a0_0) ∧ w23.cell? ⟨gb279, 1, none⟩ = some (.int .i64 a0_1) ∧ w23.cell? ⟨gb280, 0, none⟩ = some (.int .i64 a1_0) ∧ w23.cell? ⟨gb280, 1, none⟩ = some (.int .i64 a1_1) := hS_
              refine norm_ (a' := ?_) ?_ ?_
              rotate_left
              ·simp only [putAll, Act.put, List.setIfInBounds_toArray, List.set_cons_zero, List.set_cons_succ]
               rfl
              refine two_ (i := 4) (j := 11) (Ni := some 20) (Nj := some 7) #[true, true, true, true, true, true, true, true, true, false, true, false, false, false] #[true, true, true, true, false, true, true, true, true, false, true, true, false, false] rfl rfl rfl rfl (two_of HT_.out (by kernel_rfl)) (by decide) (by decide) (fun K hK => ?_) (fun K hK => ?_)
              ·skip
               refine goes_ Tryd.func27 (by kernel_rfl) rfl #[.int .i64 a0_0, .int .i64 a1_1] (by rfl) rfl rfl gm_ ?_
               with_reducible refine (ratio_times.calls a0_0 a1_1 t283 t284 t285 _ A18.out).mono ?_
               rintro e w24 ⟨rfl, hb⟩
               refine ⟨_, rfl, ?_⟩
               replace BK279 := Aside0.mk (blk_below (kb BK279) hb)
               replace BK280 := Aside0.mk (blk_below (kb BK280) hb)
               replace BK289 := Aside0.mk (blk_below (kb BK289) hb)
               replace HB := Aside0.mk (below_step (bl HB) hb)
               (try clear hb)
               (try clear hb2)
               (try clear hk)
               (try clear hi)
               refine hK.out _ _ ⟨ck BK279 0, ck BK279 1, ck BK280 0, ck BK280 1⟩ (fun hHeld => ?_)
               clear hK K
               refine norm_ (a' := ?_) ?_ ?_
               rotate_left
               ·show Act.put _ (some 20) _ = _
                simp only [Act.put, List.setIfInBounds_toArray, List.set_cons_zero, List.set_cons_succ, i64_w, i32_w]
                rfl
               exact norm_ nm_ (hJ4_10 (gb289) _ ⟨hHeld, (kb BK279), (kb BK280), (kb BK289), GW289.out, GE289.out, NB279_289.out, NB289_279.out, NB280_289.out, NB289_280.out, (bl HB)⟩)
              ·skip
               refine box_step ?hg (N := 7) ?hd (cs := #[.bool false, .int .u64 0, .int .u64 0]) (t := 49) ?hr ?_; (case hd => rfl); (case hg => rfl); (case hr => exact gs_)
               intro gb290 hg w24 hbox hb
               have BK290 := Aside0.mk (hbox)
               have GW290 := Aside0.mk ((by rw [hg]; exact (below_size (bl HB)) : w.heap.size ≤ gb290))
               have GE290 := Aside0.mk ((by rw [hg]; exact (below_size (bl HB)) : w.heap.size ≤ gb290))
               replace HB := Aside0.mk (below_step (bl HB) hb)
               have NB279_290 := Aside0.mk ((by rw [hg]; exact Nat.ne_of_lt (blk_lt (kb BK279)) : gb279 ≠ gb290))
               have NB290_279 := Aside0.mk ((by rw [hg]; exact Nat.ne_of_gt (blk_lt (kb BK279)) : gb290 ≠ gb279))
               replace BK279 := Aside0.mk (blk_below (kb BK279) hb)
               have NB280_290 := Aside0.mk ((by rw [hg]; exact Nat.ne_of_lt (blk_lt (kb BK280)) : gb280 ≠ gb290))
               have NB290_280 := Aside0.mk ((by rw [hg]; exact Nat.ne_of_gt (blk_lt (kb BK280)) : gb290 ≠ gb280))
               replace BK280 := Aside0.mk (blk_below (kb BK280) hb)
               have NB289_290 := Aside0.mk ((by rw [hg]; exact Nat.ne_of_lt (blk_lt (kb BK289)) : gb289 ≠ gb290))
               have NB290_289 := Aside0.mk ((by rw [hg]; exact Nat.ne_of_gt (blk_lt (kb BK289)) : gb290 ≠ gb289))
               replace BK289 := Aside0.mk (blk_below (kb BK289) hb)
               clear hb hbox hg
               refine hK.out _ _ ⟨ck BK279 0, ck BK279 1, ck BK280 0, ck BK280 1⟩ (fun hHeld => ?_)
               clear hK K
               refine norm_ (a' := ?_) ?_ ?_
               rotate_left
               ·show Act.put _ (some 7) _ = _
                simp only [Act.put, List.setIfInBounds_toArray, List.set_cons_zero, List.set_cons_succ, i64_w, i32_w]
                rfl
               exact norm_ nm_ (hJ10_11 (gb289, gb290) _ ⟨hHeld, (kb BK279), (kb BK280), (kb BK289), (kb BK290), GW289.out, GE289.out, NB279_289.out, NB289_279.out, NB280_289.out, NB289_280.out, NB290_289.out, NB289_290.out, GW290.out, GE290.out, NB279_290.out, NB290_279.out, NB280_290.out, NB290_280.out, (bl HB)⟩)
            ·skip
             rintro _ w23 ⟨hS_, h0_, h1_, h2_⟩
             have n0_ : Aside0 (w23.heap[gb279]? = some (.cells #[.int .i64 a0_0, .int .i64 a0_1] 24 (0, 0))) := ⟨h0_⟩
             have n1_ : Aside0 (w23.heap[gb280]? = some (.cells #[.int .i64 a1_0, .int .i64 a1_1] 24 (0, 0))) := ⟨h1_⟩
             have n2_ : Aside0 (Below w.heap.size w w23) := ⟨h2_⟩
             clear BK279
             clear BK280
             clear HB
             clear h0_ h1_ h2_
             have BK279 := n0_
             have BK280 := n1_
             have HB := n2_
             clear n0_ n1_ n2_
             have hHeld : w23.cell? ⟨gb279, 0, none⟩ = some (.int .i64 a0_0) ∧ w23.cell? ⟨gb279, 1, none⟩ = some (.int .i64 a0_1) ∧ w23.cell? ⟨gb280, 0, none⟩ = some (.int .i64 a1_0) ∧ w23.cell? ⟨gb280, 1, none⟩ = some (.int .i64 a1_1) := hS_
             refine norm_ (a' := ?_) ?_ ?_
             rotate_left
             ·simp only [putAll, Act.put, List.setIfInBounds_toArray, List.set_cons_zero, List.set_cons_succ]
              rfl
             refine three_ (i := 9) (j := 10) (k := 11) (Ni := some 25) (Nj := some 6) (Nk := some 7) #[true, true, true, true, true, true, true, true, true, true, false, false, false, false] #[true, true, true, true, true, true, true, true, true, false, true, false, false, false] #[true, true, true, true, true, true, true, true, true, false, false, true, false, false] rfl rfl rfl rfl rfl rfl (three_of HT_.out (by kernel_rfl)) (by decide) (by decide) (by decide) (fun K hK => ?_) (fun K hK => ?_) (fun K hK => ?_)
             ·skip
              refine goes_ Tryd.func27 (by kernel_rfl) rfl #[.int .i64 a1_0, .int .i64 a0_1] (by rfl) rfl rfl gm_ ?_
              with_reducible refine (ratio_times.calls a1_0 a0_1 t286 t287 t288 _ A19.out).mono ?_
              rintro e w24 ⟨rfl, hb⟩
              refine ⟨_, rfl, ?_⟩
              replace BK279 := Aside0.mk (blk_below (kb BK279) hb)
              replace BK280 := Aside0.mk (blk_below (kb BK280) hb)
              replace HB := Aside0.mk (below_step (bl HB) hb)
              (try clear hb)
              (try clear hb2)
              (try clear hk)
              (try clear hi)
              refine hK.out _ _ ⟨ck BK279 0, ck BK279 1, ck BK280 0, ck BK280 1⟩ (fun hHeld => ?_)
              clear hK K
              refine norm_ (a' := ?_) ?_ ?_
              rotate_left
              ·show Act.put _ (some 25) _ = _
               simp only [Act.put, List.setIfInBounds_toArray, List.set_cons_zero, List.set_cons_succ, i64_w, i32_w]
               rfl
              exact norm_ nm_ (hJ4_9 () _ ⟨hHeld, (kb BK279), (kb BK280), (bl HB)⟩)
             ·skip
              refine box_step ?hg (N := 6) ?hd (cs := #[.bool false, .int .u64 0, .int .u64 0]) (t := 49) ?hr ?_; (case hd => rfl); (case hg => rfl); (case hr => exact gs_)
              intro gb289 hg w24 hbox hb
              have BK289 := Aside0.mk (hbox)
              have GW289 := Aside0.mk ((by rw [hg]; exact (below_size (bl HB)) : w.heap.size ≤ gb289))
              have GE289 := Aside0.mk ((by rw [hg]; exact (below_size (bl HB)) : w.heap.size ≤ gb289))
              replace HB := Aside0.mk (below_step (bl HB) hb)
              have NB279_289 := Aside0.mk ((by rw [hg]; exact Nat.ne_of_lt (blk_lt (kb BK279)) : gb279 ≠ gb289))
              have NB289_279 := Aside0.mk ((by rw [hg]; exact Nat.ne_of_gt (blk_lt (kb BK279)) : gb289 ≠ gb279))
              replace BK279 := Aside0.mk (blk_below (kb BK279) hb)
              have NB280_289 := Aside0.mk ((by rw [hg]; exact Nat.ne_of_lt (blk_lt (kb BK280)) : gb280 ≠ gb289))
              have NB289_280 := Aside0.mk ((by rw [hg]; exact Nat.ne_of_gt (blk_lt (kb BK280)) : gb289 ≠ gb280))
              replace BK280 := Aside0.mk (blk_below (kb BK280) hb)
              clear hb hbox hg
              refine hK.out _ _ ⟨ck BK279 0, ck BK279 1, ck BK280 0, ck BK280 1⟩ (fun hHeld => ?_)
              clear hK K
              refine norm_ (a' := ?_) ?_ ?_
              rotate_left
              ·show Act.put _ (some 6) _ = _
               simp only [Act.put, List.setIfInBounds_toArray, List.set_cons_zero, List.set_cons_succ, i64_w, i32_w]
               rfl
              exact norm_ nm_ (hJ4_10 (gb289) _ ⟨hHeld, (kb BK279), (kb BK280), (kb BK289), GW289.out, GE289.out, NB279_289.out, NB289_279.out, NB280_289.out, NB289_280.out, (bl HB)⟩)
             ·skip
              refine box_step ?hg (N := 7) ?hd (cs := #[.bool false, .int .u64 0, .int .u64 0]) (t := 49) ?hr ?_; (case hd => rfl); (case hg => rfl); (case hr => exact gs_)
              intro gb290 hg w24 hbox hb
              have BK290 := Aside0.mk (hbox)
              have GW290 := Aside0.mk ((by rw [hg]; exact (below_size (bl HB)) : w.heap.size ≤ gb290))
              have GE290 := Aside0.mk ((by rw [hg]; exact (below_size (bl HB)) : w.heap.size ≤ gb290))
              replace HB := Aside0.mk (below_step (bl HB) hb)
              have NB279_290 := Aside0.mk ((by rw [hg]; exact Nat.ne_of_lt (blk_lt (kb BK279)) : gb279 ≠ gb290))
              have NB290_279 := Aside0.mk ((by rw [hg]; exact Nat.ne_of_gt (blk_lt (kb BK279)) : gb290 ≠ gb279))
              replace BK279 := Aside0.mk (blk_below (kb BK279) hb)
              have NB280_290 := Aside0.mk ((by rw [hg]; exact Nat.ne_of_lt (blk_lt (kb BK280)) : gb280 ≠ gb290))
              have NB290_280 := Aside0.mk ((by rw [hg]; exact Nat.ne_of_gt (blk_lt (kb BK280)) : gb290 ≠ gb280))
              replace BK280 := Aside0.mk (blk_below (kb BK280) hb)
              clear hb hbox hg
              refine hK.out _ _ ⟨ck BK279 0, ck BK279 1, ck BK280 0, ck BK280 1⟩ (fun hHeld => ?_)
              clear hK K
              refine norm_ (a' := ?_) ?_ ?_
              rotate_left
              ·show Act.put _ (some 7) _ = _
               simp only [Act.put, List.setIfInBounds_toArray, List.set_cons_zero, List.set_cons_succ, i64_w, i32_w]
               rfl
              exact norm_ nm_ (hJ4_11 (gb290) _ ⟨hHeld, (kb BK279), (kb BK280), (kb BK290), GW290.out, GE290.out, NB279_290.out, NB290_279.out, NB280_290.out, NB290_280.out, (bl HB)⟩)
           ·skip
            rintro ⟨gb289, gb290⟩ w24 ⟨hS_, h0_, h1_, h2_, h3_, h4_, h5_, h6_, h7_, h8_, h9_, h10_, h11_, h12_, h13_, h14_, h15_, h16_, h17_, h18_⟩
            have n0_ : Aside0 (w24.heap[gb279]? = some (.cells #[.int .i64 a0_0, .int .i64 a0_1] 24 (0, 0))) := ⟨h0_⟩
            have n1_ : Aside0 (w24.heap[gb280]? = some (.cells #[.int .i64 a1_0, .int .i64 a1_1] 24 (0, 0))) := ⟨h1_⟩
            have n2_ : Aside0 (w24.heap[gb289]? = some (.cells #[.bool false, .int .u64 0, .int .u64 0] 49 (0, 0))) := ⟨h2_⟩
            have n3_ : Aside0 (w24.heap[gb290]? = some (.cells #[.bool false, .int .u64 0, .int .u64 0] 49 (0, 0))) := ⟨h3_⟩
            have n4_ : Aside0 (w.heap.size ≤ gb289) := ⟨h4_⟩
            have n5_ : Aside0 (w.heap.size ≤ gb289) := ⟨h5_⟩
            have n6_ : Aside0 (gb279 ≠ gb289) := ⟨h6_⟩
            have n7_ : Aside0 (gb289 ≠ gb279) := ⟨h7_⟩
            have n8_ : Aside0 (gb280 ≠ gb289) := ⟨h8_⟩
            have n9_ : Aside0 (gb289 ≠ gb280) := ⟨h9_⟩
            have n10_ : Aside0 (gb290 ≠ gb289) := ⟨h10_⟩
            have n11_ : Aside0 (gb289 ≠ gb290) := ⟨h11_⟩
            have n12_ : Aside0 (w.heap.size ≤ gb290) := ⟨h12_⟩
            have n13_ : Aside0 (w.heap.size ≤ gb290) := ⟨h13_⟩
            have n14_ : Aside0 (gb279 ≠ gb290) := ⟨h14_⟩
            have n15_ : Aside0 (gb290 ≠ gb279) := ⟨h15_⟩
            have n16_ : Aside0 (gb280 ≠ gb290) := ⟨h16_⟩
            have n17_ : Aside0 (gb290 ≠ gb280) := ⟨h17_⟩
            have n18_ : Aside0 (Below w.heap.size w w24) := ⟨h18_⟩
            clear BK279
            clear BK280
            clear HB
            clear h0_ h1_ h2_ h3_ h4_ h5_ h6_ h7_ h8_ h9_ h10_ h11_ h12_ h13_ h14_ h15_ h16_ h17_ h18_
            have BK279 := n0_
            have BK280 := n1_
            have BK289 := n2_
            have BK290 := n3_
            have GW289 := n4_
            have GE289 := n5_
            have NB279_289 := n6_
            have NB289_279 := n7_
            have NB280_289 := n8_
            have NB289_280 := n9_
            have NB290_289 := n10_
            have NB289_290 := n11_
            have GW290 := n12_
            have GE290 := n13_
            have NB279_290 := n14_
            have NB290_279 := n15_
            have NB280_290 := n16_
            have NB290_280 := n17_
            have HB := n18_
            clear n0_ n1_ n2_ n3_ n4_ n5_ n6_ n7_ n8_ n9_ n10_ n11_ n12_ n13_ n14_ n15_ n16_ n17_ n18_
            have hHeld : w24.cell? ⟨gb279, 0, none⟩ = some (.int .i64 a0_0) ∧ w24.cell? ⟨gb279, 1, none⟩ = some (.int .i64 a0_1) ∧ w24.cell? ⟨gb280, 0, none⟩ = some (.int .i64 a1_0) ∧ w24.cell? ⟨gb280, 1, none⟩ = some (.int .i64 a1_1) := hS_
            refine norm_ (a' := ?_) ?_ ?_
            rotate_left
            ·simp only [putAll, Act.put, List.setIfInBounds_toArray, List.set_cons_zero, List.set_cons_succ]
             rfl
            refine one_ (i := 4) (N := some 20) #[true, true, true, true, true, true, true, true, true, false, true, true, false, false] rfl rfl (one_of HT_.out (by kernel_rfl)) (by decide) (fun K hK => ?_)
            refine goes_ Tryd.func27 (by kernel_rfl) rfl #[.int .i64 a0_0, .int .i64 a1_1] (by rfl) rfl rfl gm_ ?_
            with_reducible refine (ratio_times.calls a0_0 a1_1 t283 t284 t285 _ A18.out).mono ?_
            rintro e w25 ⟨rfl, hb⟩
            refine ⟨_, rfl, ?_⟩
            replace BK279 := Aside0.mk (blk_below (kb BK279) hb)
            replace BK280 := Aside0.mk (blk_below (kb BK280) hb)
            replace BK289 := Aside0.mk (blk_below (kb BK289) hb)
            replace BK290 := Aside0.mk (blk_below (kb BK290) hb)
            replace HB := Aside0.mk (below_step (bl HB) hb)
            (try clear hb)
            (try clear hb2)
            (try clear hk)
            (try clear hi)
            refine hK.out _ _ ⟨ck BK279 0, ck BK279 1, ck BK280 0, ck BK280 1⟩ (fun hHeld => ?_)
            clear hK K
            refine norm_ (a' := ?_) ?_ ?_
            rotate_left
            ·show Act.put _ (some 20) _ = _
             simp only [Act.put, List.setIfInBounds_toArray, List.set_cons_zero, List.set_cons_succ, i64_w, i32_w]
             rfl
            exact norm_ nm_ (hJ4_10_11 (gb289, gb290) _ ⟨hHeld, (kb BK279), (kb BK280), (kb BK289), (kb BK290), GW289.out, GE289.out, NB279_289.out, NB289_279.out, NB280_289.out, NB289_280.out, NB290_289.out, NB289_290.out, GW290.out, GE290.out, NB279_290.out, NB290_279.out, NB280_290.out, NB290_280.out, (bl HB)⟩)
          ·skip
           rintro gb290 w24 ⟨hS_, h0_, h1_, h2_, h3_, h4_, h5_, h6_, h7_, h8_, h9_⟩
           have n0_ : Aside0 (w24.heap[gb279]? = some (.cells #[.int .i64 a0_0, .int .i64 a0_1] 24 (0, 0))) := ⟨h0_⟩
           have n1_ : Aside0 (w24.heap[gb280]? = some (.cells #[.int .i64 a1_0, .int .i64 a1_1] 24 (0, 0))) := ⟨h1_⟩
           have n2_ : Aside0 (w24.heap[gb290]? = some (.cells #[.bool false, .int .u64 0, .int .u64 0] 49 (0, 0))) := ⟨h2_⟩
           have n3_ : Aside0 (w.heap.size ≤ gb290) := ⟨h3_⟩
           have n4_ : Aside0 (w.heap.size ≤ gb290) := ⟨h4_⟩
           have n5_ : Aside0 (gb279 ≠ gb290) := ⟨h5_⟩
           have n6_ : Aside0 (gb290 ≠ gb279) := ⟨h6_⟩
           have n7_ : Aside0 (gb280 ≠ gb290) := ⟨h7_⟩
           have n8_ : Aside0 (gb290 ≠ gb280) := ⟨h8_⟩
           have n9_ : Aside0 (Below w.heap.size w w24) := ⟨h9_⟩
           clear BK279
           clear BK280
           clear HB
           clear h0_ h1_ h2_ h3_ h4_ h5_ h6_ h7_ h8_ h9_
           have BK279 := n0_
           have BK280 := n1_
           have BK290 := n2_
           have GW290 := n3_
           have GE290 := n4_
           have NB279_290 := n5_
           have NB290_279 := n6_
           have NB280_290 := n7_
           have NB290_280 := n8_
           have HB := n9_
           clear n0_ n1_ n2_ n3_ n4_ n5_ n6_ n7_ n8_ n9_
           have hHeld : w24.cell? ⟨gb279, 0, none⟩ = some (.int .i64 a0_0) ∧ w24.cell? ⟨gb279, 1, none⟩ = some (.int .i64 a0_1) ∧ w24.cell? ⟨gb280, 0, none⟩ = some (.int .i64 a1_0) ∧ w24.cell? ⟨gb280, 1, none⟩ = some (.int .i64 a1_1) := hS_
           refine norm_ (a' := ?_) ?_ ?_
           rotate_left
           ·simp only [putAll, Act.put, List.setIfInBounds_toArray, List.set_cons_zero, List.set_cons_succ]
            rfl
           refine two_ (i := 9) (j := 10) (Ni := some 25) (Nj := some 6) #[true, true, true, true, true, true, true, true, true, true, false, true, false, false] #[true, true, true, true, true, true, true, true, true, false, true, true, false, false] rfl rfl rfl rfl (two_of HT_.out (by kernel_rfl)) (by decide) (by decide) (fun K hK => ?_) (fun K hK => ?_)
           ·skip
            refine goes_ Tryd.func27 (by kernel_rfl) rfl #[.int .i64 a1_0, .int .i64 a0_1] (by rfl) rfl rfl gm_ ?_
            with_reducible refine (ratio_times.calls a1_0 a0_1 t286 t287 t288 _ A19.out).mono ?_
            rintro e w25 ⟨rfl, hb⟩
            refine ⟨_, rfl, ?_⟩
            replace BK279 := Aside0.mk (blk_below (kb BK279) hb)
            replace BK280 := Aside0.mk (blk_below (kb BK280) hb)
            replace BK290 := Aside0.mk (blk_below (kb BK290) hb)
            replace HB := Aside0.mk (below_step (bl HB) hb)
            (try clear hb)
            (try clear hb2)
            (try clear hk)
            (try clear hi)
            refine hK.out _ _ ⟨ck BK279 0, ck BK279 1, ck BK280 0, ck BK280 1⟩ (fun hHeld => ?_)
            clear hK K
            refine norm_ (a' := ?_) ?_ ?_
            rotate_left
            ·show Act.put _ (some 25) _ = _
             simp only [Act.put, List.setIfInBounds_toArray, List.set_cons_zero, List.set_cons_succ, i64_w, i32_w]
             rfl
            exact norm_ nm_ (hJ4_9_11 (gb290) _ ⟨hHeld, (kb BK279), (kb BK280), (kb BK290), GW290.out, GE290.out, NB279_290.out, NB290_279.out, NB280_290.out, NB290_280.out, (bl HB)⟩)
           ·skip
            refine box_step ?hg (N := 6) ?hd (cs := #[.bool false, .int .u64 0, .int .u64 0]) (t := 49) ?hr ?_; (case hd => rfl); (case hg => rfl); (case hr => exact gs_)
            intro gb289 hg w25 hbox hb
            have BK289 := Aside0.mk (hbox)
            have GW289 := Aside0.mk ((by rw [hg]; exact (below_size (bl HB)) : w.heap.size ≤ gb289))
            have GE289 := Aside0.mk ((by rw [hg]; exact (below_size (bl HB)) : w.heap.size ≤ gb289))
            replace HB := Aside0.mk (below_step (bl HB) hb)
            have NB279_289 := Aside0.mk ((by rw [hg]; exact Nat.ne_of_lt (blk_lt (kb BK279)) : gb279 ≠ gb289))
            have NB289_279 := Aside0.mk ((by rw [hg]; exact Nat.ne_of_gt (blk_lt (kb BK279)) : gb289 ≠ gb279))
            replace BK279 := Aside0.mk (blk_below (kb BK279) hb)
            have NB280_289 := Aside0.mk ((by rw [hg]; exact Nat.ne_of_lt (blk_lt (kb BK280)) : gb280 ≠ gb289))
            have NB289_280 := Aside0.mk ((by rw [hg]; exact Nat.ne_of_gt (blk_lt (kb BK280)) : gb289 ≠ gb280))
            replace BK280 := Aside0.mk (blk_below (kb BK280) hb)
            have NB290_289 := Aside0.mk ((by rw [hg]; exact Nat.ne_of_lt (blk_lt (kb BK290)) : gb290 ≠ gb289))
            have NB289_290 := Aside0.mk ((by rw [hg]; exact Nat.ne_of_gt (blk_lt (kb BK290)) : gb289 ≠ gb290))
            replace BK290 := Aside0.mk (blk_below (kb BK290) hb)
            clear hb hbox hg
            refine hK.out _ _ ⟨ck BK279 0, ck BK279 1, ck BK280 0, ck BK280 1⟩ (fun hHeld => ?_)
            clear hK K
            refine norm_ (a' := ?_) ?_ ?_
            rotate_left
            ·show Act.put _ (some 6) _ = _
             simp only [Act.put, List.setIfInBounds_toArray, List.set_cons_zero, List.set_cons_succ, i64_w, i32_w]
             rfl
            exact norm_ nm_ (hJ4_10_11 (gb289, gb290) _ ⟨hHeld, (kb BK279), (kb BK280), (kb BK289), (kb BK290), GW289.out, GE289.out, NB279_289.out, NB289_279.out, NB280_289.out, NB289_280.out, NB290_289.out, NB289_290.out, GW290.out, GE290.out, NB279_290.out, NB290_279.out, NB280_290.out, NB290_280.out, (bl HB)⟩)
         ·skip
          rintro gb289 w24 ⟨hS_, h0_, h1_, h2_, h3_, h4_, h5_, h6_, h7_, h8_, h9_⟩
          have n0_ : Aside0 (w24.heap[gb279]? = some (.cells #[.int .i64 a0_0, .int .i64 a0_1] 24 (0, 0))) := ⟨h0_⟩
          have n1_ : Aside0 (w24.heap[gb280]? = some (.cells #[.int .i64 a1_0, .int .i64 a1_1] 24 (0, 0))) := ⟨h1_⟩
          have n2_ : Aside0 (w24.heap[gb289]? = some (.cells #[.bool false, .int .u64 0, .int .u64 0] 49 (0, 0))) := ⟨h2_⟩
          have n3_ : Aside0 (w.heap.size ≤ gb289) := ⟨h3_⟩
          have n4_ : Aside0 (w.heap.size ≤ gb289) := ⟨h4_⟩
          have n5_ : Aside0 (gb279 ≠ gb289) := ⟨h5_⟩
          have n6_ : Aside0 (gb289 ≠ gb279) := ⟨h6_⟩
          have n7_ : Aside0 (gb280 ≠ gb289) := ⟨h7_⟩
          have n8_ : Aside0 (gb289 ≠ gb280) := ⟨h8_⟩
          have n9_ : Aside0 (Below w.heap.size w w24) := ⟨h9_⟩
          clear BK279
          clear BK280
          clear HB
          clear h0_ h1_ h2_ h3_ h4_ h5_ h6_ h7_ h8_ h9_
          have BK279 := n0_
          have BK280 := n1_
          have BK289 := n2_
          have GW289 := n3_
          have GE289 := n4_
          have NB279_289 := n5_
          have NB289_279 := n6_
          have NB280_289 := n7_
          have NB289_280 := n8_
          have HB := n9_
          clear n0_ n1_ n2_ n3_ n4_ n5_ n6_ n7_ n8_ n9_
          have hHeld : w24.cell? ⟨gb279, 0, none⟩ = some (.int .i64 a0_0) ∧ w24.cell? ⟨gb279, 1, none⟩ = some (.int .i64 a0_1) ∧ w24.cell? ⟨gb280, 0, none⟩ = some (.int .i64 a1_0) ∧ w24.cell? ⟨gb280, 1, none⟩ = some (.int .i64 a1_1) := hS_
          refine norm_ (a' := ?_) ?_ ?_
          rotate_left
          ·simp only [putAll, Act.put, List.setIfInBounds_toArray, List.set_cons_zero, List.set_cons_succ]
           rfl
          refine two_ (i := 9) (j := 11) (Ni := some 25) (Nj := some 7) #[true, true, true, true, true, true, true, true, true, true, true, false, false, false] #[true, true, true, true, true, true, true, true, true, false, true, true, false, false] rfl rfl rfl rfl (two_of HT_.out (by kernel_rfl)) (by decide) (by decide) (fun K hK => ?_) (fun K hK => ?_)
          ·skip
           refine goes_ Tryd.func27 (by kernel_rfl) rfl #[.int .i64 a1_0, .int .i64 a0_1] (by rfl) rfl rfl gm_ ?_
           with_reducible refine (ratio_times.calls a1_0 a0_1 t286 t287 t288 _ A19.out).mono ?_
           rintro e w25 ⟨rfl, hb⟩
           refine ⟨_, rfl, ?_⟩
           replace BK279 := Aside0.mk (blk_below (kb BK279) hb)
           replace BK280 := Aside0.mk (blk_below (kb BK280) hb)
           replace BK289 := Aside0.mk (blk_below (kb BK289) hb)
           replace HB := Aside0.mk (below_step (bl HB) hb)
           (try clear hb)
           (try clear hb2)
           (try clear hk)
           (try clear hi)
           refine hK.out _ _ ⟨ck BK279 0, ck BK279 1, ck BK280 0, ck BK280 1⟩ (fun hHeld => ?_)
           clear hK K
           refine norm_ (a' := ?_) ?_ ?_
           rotate_left
           ·show Act.put _ (some 25) _ = _
            simp only [Act.put, List.setIfInBounds_toArray, List.set_cons_zero, List.set_cons_succ, i64_w, i32_w]
            rfl
           exact norm_ nm_ (hJ4_9_10 (gb289) _ ⟨hHeld, (kb BK279), (kb BK280), (kb BK289), GW289.out, GE289.out, NB279_289.out, NB289_279.out, NB280_289.out, NB289_280.out, (bl HB)⟩)
          ·skip
           refine box_step ?hg (N := 7) ?hd (cs := #[.bool false, .int .u64 0, .int .u64 0]) (t := 49) ?hr ?_; (case hd => rfl); (case hg => rfl); (case hr => exact gs_)
           intro gb290 hg w25 hbox hb
           have BK290 := Aside0.mk (hbox)
           have GW290 := Aside0.mk ((by rw [hg]; exact (below_size (bl HB)) : w.heap.size ≤ gb290))
           have GE290 := Aside0.mk ((by rw [hg]; exact (below_size (bl HB)) : w.heap.size ≤ gb290))
           replace HB := Aside0.mk (below_step (bl HB) hb)
           have NB279_290 := Aside0.mk ((by rw [hg]; exact Nat.ne_of_lt (blk_lt (kb BK279)) : gb279 ≠ gb290))
           have NB290_279 := Aside0.mk ((by rw [hg]; exact Nat.ne_of_gt (blk_lt (kb BK279)) : gb290 ≠ gb279))
           replace BK279 := Aside0.mk (blk_below (kb BK279) hb)
           have NB280_290 := Aside0.mk ((by rw [hg]; exact Nat.ne_of_lt (blk_lt (kb BK280)) : gb280 ≠ gb290))
           have NB290_280 := Aside0.mk ((by rw [hg]; exact Nat.ne_of_gt (blk_lt (kb BK280)) : gb290 ≠ gb280))
           replace BK280 := Aside0.mk (blk_below (kb BK280) hb)
           have NB289_290 := Aside0.mk ((by rw [hg]; exact Nat.ne_of_lt (blk_lt (kb BK289)) : gb289 ≠ gb290))
           have NB290_289 := Aside0.mk ((by rw [hg]; exact Nat.ne_of_gt (blk_lt (kb BK289)) : gb290 ≠ gb289))
           replace BK289 := Aside0.mk (blk_below (kb BK289) hb)
           clear hb hbox hg
           refine hK.out _ _ ⟨ck BK279 0, ck BK279 1, ck BK280 0, ck BK280 1⟩ (fun hHeld => ?_)
           clear hK K
           refine norm_ (a' := ?_) ?_ ?_
           rotate_left
           ·show Act.put _ (some 7) _ = _
            simp only [Act.put, List.setIfInBounds_toArray, List.set_cons_zero, List.set_cons_succ, i64_w, i32_w]
            rfl
           exact norm_ nm_ (hJ4_10_11 (gb289, gb290) _ ⟨hHeld, (kb BK279), (kb BK280), (kb BK289), (kb BK290), GW289.out, GE289.out, NB279_289.out, NB289_279.out, NB280_289.out, NB289_280.out, NB290_289.out, NB289_290.out, GW290.out, GE290.out, NB279_290.out, NB290_279.out, NB280_290.out, NB290_280.out, (bl HB)⟩)
        ·skip
         rintro _ w24 ⟨hS_, h0_, h1_, h2_⟩
         have n0_ : Aside0 (w24.heap[gb279]? = some (.cells #[.int .i64 a0_0, .int .i64 a0_1] 24 (0, 0))) := ⟨h0_⟩
         have n1_ : Aside0 (w24.heap[gb280]? = some (.cells #[.int .i64 a1_0, .int .i64 a1_1] 24 (0, 0))) := ⟨h1_⟩
         have n2_ : Aside0 (Below w.heap.size w w24) := ⟨h2_⟩
         clear BK279
         clear BK280
         clear HB
         clear h0_ h1_ h2_
         have BK279 := n0_
         have BK280 := n1_
         have HB := n2_
         clear n0_ n1_ n2_
         have hHeld : w24.cell? ⟨gb279, 0, none⟩ = some (.int .i64 a0_0) ∧ w24.cell? ⟨gb279, 1, none⟩ = some (.int .i64 a0_1) ∧ w24.cell? ⟨gb280, 0, none⟩ = some (.int .i64 a1_0) ∧ w24.cell? ⟨gb280, 1, none⟩ = some (.int .i64 a1_1) := hS_
         refine norm_ (a' := ?_) ?_ ?_
         rotate_left
         ·simp only [putAll, Act.put, List.setIfInBounds_toArray, List.set_cons_zero, List.set_cons_succ]
          rfl
         refine two_ (i := 10) (j := 11) (Ni := some 6) (Nj := some 7) #[true, true, true, true, true, true, true, true, true, true, true, false, false, false] #[true, true, true, true, true, true, true, true, true, true, false, true, false, false] rfl rfl rfl rfl (two_of HT_.out (by kernel_rfl)) (by decide) (by decide) (fun K hK => ?_) (fun K hK => ?_)
         ·skip
          refine box_step ?hg (N := 6) ?hd (cs := #[.bool false, .int .u64 0, .int .u64 0]) (t := 49) ?hr ?_; (case hd => rfl); (case hg => rfl); (case hr => exact gs_)
          intro gb289 hg w25 hbox hb
          have BK289 := Aside0.mk (hbox)
          have GW289 := Aside0.mk ((by rw [hg]; exact (below_size (bl HB)) : w.heap.size ≤ gb289))
          have GE289 := Aside0.mk ((by rw [hg]; exact (below_size (bl HB)) : w.heap.size ≤ gb289))
          replace HB := Aside0.mk (below_step (bl HB) hb)
          have NB279_289 := Aside0.mk ((by rw [hg]; exact Nat.ne_of_lt (blk_lt (kb BK279)) : gb279 ≠ gb289))
          have NB289_279 := Aside0.mk ((by rw [hg]; exact Nat.ne_of_gt (blk_lt (kb BK279)) : gb289 ≠ gb279))
          replace BK279 := Aside0.mk (blk_below (kb BK279) hb)
          have NB280_289 := Aside0.mk ((by rw [hg]; exact Nat.ne_of_lt (blk_lt (kb BK280)) : gb280 ≠ gb289))
          have NB289_280 := Aside0.mk ((by rw [hg]; exact Nat.ne_of_gt (blk_lt (kb BK280)) : gb289 ≠ gb280))
          replace BK280 := Aside0.mk (blk_below (kb BK280) hb)
          clear hb hbox hg
          refine hK.out _ _ ⟨ck BK279 0, ck BK279 1, ck BK280 0, ck BK280 1⟩ (fun hHeld => ?_)
          clear hK K
          refine norm_ (a' := ?_) ?_ ?_
          rotate_left
          ·show Act.put _ (some 6) _ = _
           simp only [Act.put, List.setIfInBounds_toArray, List.set_cons_zero, List.set_cons_succ, i64_w, i32_w]
           rfl
          exact norm_ nm_ (hJ4_9_10 (gb289) _ ⟨hHeld, (kb BK279), (kb BK280), (kb BK289), GW289.out, GE289.out, NB279_289.out, NB289_279.out, NB280_289.out, NB289_280.out, (bl HB)⟩)
         ·skip
          refine box_step ?hg (N := 7) ?hd (cs := #[.bool false, .int .u64 0, .int .u64 0]) (t := 49) ?hr ?_; (case hd => rfl); (case hg => rfl); (case hr => exact gs_)
          intro gb290 hg w25 hbox hb
          have BK290 := Aside0.mk (hbox)
          have GW290 := Aside0.mk ((by rw [hg]; exact (below_size (bl HB)) : w.heap.size ≤ gb290))
          have GE290 := Aside0.mk ((by rw [hg]; exact (below_size (bl HB)) : w.heap.size ≤ gb290))
          replace HB := Aside0.mk (below_step (bl HB) hb)
          have NB279_290 := Aside0.mk ((by rw [hg]; exact Nat.ne_of_lt (blk_lt (kb BK279)) : gb279 ≠ gb290))
          have NB290_279 := Aside0.mk ((by rw [hg]; exact Nat.ne_of_gt (blk_lt (kb BK279)) : gb290 ≠ gb279))
          replace BK279 := Aside0.mk (blk_below (kb BK279) hb)
          have NB280_290 := Aside0.mk ((by rw [hg]; exact Nat.ne_of_lt (blk_lt (kb BK280)) : gb280 ≠ gb290))
          have NB290_280 := Aside0.mk ((by rw [hg]; exact Nat.ne_of_gt (blk_lt (kb BK280)) : gb290 ≠ gb280))
          replace BK280 := Aside0.mk (blk_below (kb BK280) hb)
          clear hb hbox hg
          refine hK.out _ _ ⟨ck BK279 0, ck BK279 1, ck BK280 0, ck BK280 1⟩ (fun hHeld => ?_)
          clear hK K
          refine norm_ (a' := ?_) ?_ ?_
          rotate_left
          ·show Act.put _ (some 7) _ = _
           simp only [Act.put, List.setIfInBounds_toArray, List.set_cons_zero, List.set_cons_succ, i64_w, i32_w]
           rfl
          exact norm_ nm_ (hJ4_9_11 (gb290) _ ⟨hHeld, (kb BK279), (kb BK280), (kb BK290), GW290.out, GE290.out, NB279_290.out, NB290_279.out, NB280_290.out, NB290_280.out, (bl HB)⟩)
       ·skip
        rintro ⟨gb289, gb290⟩ w25 ⟨hS_, h0_, h1_, h2_, h3_, h4_, h5_, h6_, h7_, h8_, h9_, h10_, h11_, h12_, h13_, h14_, h15_, h16_, h17_, h18_⟩
        have n0_ : Aside0 (w25.heap[gb279]? = some (.cells #[.int .i64 a0_0, .int .i64 a0_1] 24 (0, 0))) := ⟨h0_⟩
        have n1_ : Aside0 (w25.heap[gb280]? = some (.cells #[.int .i64 a1_0, .int .i64 a1_1] 24 (0, 0))) := ⟨h1_⟩
        have n2_ : Aside0 (w25.heap[gb289]? = some (.cells #[.bool false, .int .u64 0, .int .u64 0] 49 (0, 0))) := ⟨h2_⟩
        have n3_ : Aside0 (w25.heap[gb290]? = some (.cells #[.bool false, .int .u64 0, .int .u64 0] 49 (0, 0))) := ⟨h3_⟩
        have n4_ : Aside0 (w.heap.size ≤ gb289) := ⟨h4_⟩
        have n5_ : Aside0 (w.heap.size ≤ gb289) := ⟨h5_⟩
        have n6_ : Aside0 (gb279 ≠ gb289) := ⟨h6_⟩
        have n7_ : Aside0 (gb289 ≠ gb279) := ⟨h7_⟩
        have n8_ : Aside0 (gb280 ≠ gb289) := ⟨h8_⟩
        have n9_ : Aside0 (gb289 ≠ gb280) := ⟨h9_⟩
        have n10_ : Aside0 (gb290 ≠ gb289) := ⟨h10_⟩
        have n11_ : Aside0 (gb289 ≠ gb290) := ⟨h11_⟩
        have n12_ : Aside0 (w.heap.size ≤ gb290) := ⟨h12_⟩
        have n13_ : Aside0 (w.heap.size ≤ gb290) := ⟨h13_⟩
        have n14_ : Aside0 (gb279 ≠ gb290) := ⟨h14_⟩
        have n15_ : Aside0 (gb290 ≠ gb279) := ⟨h15_⟩
        have n16_ : Aside0 (gb280 ≠ gb290) := ⟨h16_⟩
        have n17_ : Aside0 (gb290 ≠ gb280) := ⟨h17_⟩
        have n18_ : Aside0 (Below w.heap.size w w25) := ⟨h18_⟩
        clear BK279
        clear BK280
        clear HB
        clear h0_ h1_ h2_ h3_ h4_ h5_ h6_ h7_ h8_ h9_ h10_ h11_ h12_ h13_ h14_ h15_ h16_ h17_ h18_
        have BK279 := n0_
        have BK280 := n1_
        have BK289 := n2_
        have BK290 := n3_
        have GW289 := n4_
        have GE289 := n5_
        have NB279_289 := n6_
        have NB289_279 := n7_
        have NB280_289 := n8_
        have NB289_280 := n9_
        have NB290_289 := n10_
        have NB289_290 := n11_
        have GW290 := n12_
        have GE290 := n13_
        have NB279_290 := n14_
        have NB290_279 := n15_
        have NB280_290 := n16_
        have NB290_280 := n17_
        have HB := n18_
        clear n0_ n1_ n2_ n3_ n4_ n5_ n6_ n7_ n8_ n9_ n10_ n11_ n12_ n13_ n14_ n15_ n16_ n17_ n18_
        have hHeld : w25.cell? ⟨gb279, 0, none⟩ = some (.int .i64 a0_0) ∧ w25.cell? ⟨gb279, 1, none⟩ = some (.int .i64 a0_1) ∧ w25.cell? ⟨gb280, 0, none⟩ = some (.int .i64 a1_0) ∧ w25.cell? ⟨gb280, 1, none⟩ = some (.int .i64 a1_1) := hS_
        refine norm_ (a' := ?_) ?_ ?_
        rotate_left
        ·simp only [putAll, Act.put, List.setIfInBounds_toArray, List.set_cons_zero, List.set_cons_succ]
         rfl
        refine one_ (i := 9) (N := some 25) #[true, true, true, true, true, true, true, true, true, true, true, true, false, false] rfl rfl (one_of HT_.out (by kernel_rfl)) (by decide) (fun K hK => ?_)
        refine goes_ Tryd.func27 (by kernel_rfl) rfl #[.int .i64 a1_0, .int .i64 a0_1] (by rfl) rfl rfl gm_ ?_
        with_reducible refine (ratio_times.calls a1_0 a0_1 t286 t287 t288 _ A19.out).mono ?_
        rintro e w26 ⟨rfl, hb⟩
        refine ⟨_, rfl, ?_⟩
        replace BK279 := Aside0.mk (blk_below (kb BK279) hb)
        replace BK280 := Aside0.mk (blk_below (kb BK280) hb)
        replace BK289 := Aside0.mk (blk_below (kb BK289) hb)
        replace BK290 := Aside0.mk (blk_below (kb BK290) hb)
        replace HB := Aside0.mk (below_step (bl HB) hb)
        (try clear hb)
        (try clear hb2)
        (try clear hk)
        (try clear hi)
        refine hK.out _ _ ⟨ck BK279 0, ck BK279 1, ck BK280 0, ck BK280 1⟩ (fun hHeld => ?_)
        clear hK K
        refine norm_ (a' := ?_) ?_ ?_
        rotate_left
        ·show Act.put _ (some 25) _ = _
         simp only [Act.put, List.setIfInBounds_toArray, List.set_cons_zero, List.set_cons_succ, i64_w, i32_w]
         rfl
        exact norm_ nm_ (hJ4_9_10_11 (gb289, gb290) _ ⟨hHeld, (kb BK279), (kb BK280), (kb BK289), (kb BK290), GW289.out, GE289.out, NB279_289.out, NB289_279.out, NB280_289.out, NB289_280.out, NB290_289.out, NB289_290.out, GW290.out, GE290.out, NB279_290.out, NB290_279.out, NB280_290.out, NB290_280.out, (bl HB)⟩)
      ·skip
       rintro gb290 w25 ⟨hS_, h0_, h1_, h2_, h3_, h4_, h5_, h6_, h7_, h8_, h9_⟩
       have n0_ : Aside0 (w25.heap[gb279]? = some (.cells #[.int .i64 a0_0, .int .i64 a0_1] 24 (0, 0))) := ⟨h0_⟩
       have n1_ : Aside0 (w25.heap[gb280]? = some (.cells #[.int .i64 a1_0, .int .i64 a1_1] 24 (0, 0))) := ⟨h1_⟩
       have n2_ : Aside0 (w25.heap[gb290]? = some (.cells #[.bool false, .int .u64 0, .int .u64 0] 49 (0, 0))) := ⟨h2_⟩
       have n3_ : Aside0 (w.heap.size ≤ gb290) := ⟨h3_⟩
       have n4_ : Aside0 (w.heap.size ≤ gb290) := ⟨h4_⟩
       have n5_ : Aside0 (gb279 ≠ gb290) := ⟨h5_⟩
       have n6_ : Aside0 (gb290 ≠ gb279) := ⟨h6_⟩
       have n7_ : Aside0 (gb280 ≠ gb290) := ⟨h7_⟩
       have n8_ : Aside0 (gb290 ≠ gb280) := ⟨h8_⟩
       have n9_ : Aside0 (Below w.heap.size w w25) := ⟨h9_⟩
       clear BK279
       clear BK280
       clear HB
       clear h0_ h1_ h2_ h3_ h4_ h5_ h6_ h7_ h8_ h9_
       have BK279 := n0_
       have BK280 := n1_
       have BK290 := n2_
       have GW290 := n3_
       have GE290 := n4_
       have NB279_290 := n5_
       have NB290_279 := n6_
       have NB280_290 := n7_
       have NB290_280 := n8_
       have HB := n9_
       clear n0_ n1_ n2_ n3_ n4_ n5_ n6_ n7_ n8_ n9_
       have hHeld : w25.cell? ⟨gb279, 0, none⟩ = some (.int .i64 a0_0) ∧ w25.cell? ⟨gb279, 1, none⟩ = some (.int .i64 a0_1) ∧ w25.cell? ⟨gb280, 0, none⟩ = some (.int .i64 a1_0) ∧ w25.cell? ⟨gb280, 1, none⟩ = some (.int .i64 a1_1) := hS_
       refine norm_ (a' := ?_) ?_ ?_
       rotate_left
       ·simp only [putAll, Act.put, List.setIfInBounds_toArray, List.set_cons_zero, List.set_cons_succ]
        rfl
       refine one_ (i := 10) (N := some 6) #[true, true, true, true, true, true, true, true, true, true, true, true, false, false] rfl rfl (one_of HT_.out (by kernel_rfl)) (by decide) (fun K hK => ?_)
       refine box_step ?hg (N := 6) ?hd (cs := #[.bool false, .int .u64 0, .int .u64 0]) (t := 49) ?hr ?_; (case hd => rfl); (case hg => rfl); (case hr => exact gs_)
       intro gb289 hg w26 hbox hb
       have BK289 := Aside0.mk (hbox)
       have GW289 := Aside0.mk ((by rw [hg]; exact (below_size (bl HB)) : w.heap.size ≤ gb289))
       have GE289 := Aside0.mk ((by rw [hg]; exact (below_size (bl HB)) : w.heap.size ≤ gb289))
       replace HB := Aside0.mk (below_step (bl HB) hb)
       have NB279_289 := Aside0.mk ((by rw [hg]; exact Nat.ne_of_lt (blk_lt (kb BK279)) : gb279 ≠ gb289))
       have NB289_279 := Aside0.mk ((by rw [hg]; exact Nat.ne_of_gt (blk_lt (kb BK279)) : gb289 ≠ gb279))
       replace BK279 := Aside0.mk (blk_below (kb BK279) hb)
       have NB280_289 := Aside0.mk ((by rw [hg]; exact Nat.ne_of_lt (blk_lt (kb BK280)) : gb280 ≠ gb289))
       have NB289_280 := Aside0.mk ((by rw [hg]; exact Nat.ne_of_gt (blk_lt (kb BK280)) : gb289 ≠ gb280))
       replace BK280 := Aside0.mk (blk_below (kb BK280) hb)
       have NB290_289 := Aside0.mk ((by rw [hg]; exact Nat.ne_of_lt (blk_lt (kb BK290)) : gb290 ≠ gb289))
       have NB289_290 := Aside0.mk ((by rw [hg]; exact Nat.ne_of_gt (blk_lt (kb BK290)) : gb289 ≠ gb290))
       replace BK290 := Aside0.mk (blk_below (kb BK290) hb)
       clear hb hbox hg
       refine hK.out _ _ ⟨ck BK279 0, ck BK279 1, ck BK280 0, ck BK280 1⟩ (fun hHeld => ?_)
       clear hK K
       refine norm_ (a' := ?_) ?_ ?_
       rotate_left
       ·show Act.put _ (some 6) _ = _
        simp only [Act.put, List.setIfInBounds_toArray, List.set_cons_zero, List.set_cons_succ, i64_w, i32_w]
        rfl
       exact norm_ nm_ (hJ4_9_10_11 (gb289, gb290) _ ⟨hHeld, (kb BK279), (kb BK280), (kb BK289), (kb BK290), GW289.out, GE289.out, NB279_289.out, NB289_279.out, NB280_289.out, NB289_280.out, NB290_289.out, NB289_290.out, GW290.out, GE290.out, NB279_290.out, NB290_279.out, NB280_290.out, NB290_280.out, (bl HB)⟩)
     ·skip
      rintro gb289 w25 ⟨hS_, h0_, h1_, h2_, h3_, h4_, h5_, h6_, h7_, h8_, h9_⟩
      have n0_ : Aside0 (w25.heap[gb279]? = some (.cells #[.int .i64 a0_0, .int .i64 a0_1] 24 (0, 0))) := ⟨h0_⟩
      have n1_ : Aside0 (w25.heap[gb280]? = some (.cells #[.int .i64 a1_0, .int .i64 a1_1] 24 (0, 0))) := ⟨h1_⟩
      have n2_ : Aside0 (w25.heap[gb289]? = some (.cells #[.bool false, .int .u64 0, .int .u64 0] 49 (0, 0))) := ⟨h2_⟩
      have n3_ : Aside0 (w.heap.size ≤ gb289) := ⟨h3_⟩
      have n4_ : Aside0 (w.heap.size ≤ gb289) := ⟨h4_⟩
      have n5_ : Aside0 (gb279 ≠ gb289) := ⟨h5_⟩
      have n6_ : Aside0 (gb289 ≠ gb279) := ⟨h6_⟩
      have n7_ : Aside0 (gb280 ≠ gb289) := ⟨h7_⟩
      have n8_ : Aside0 (gb289 ≠ gb280) := ⟨h8_⟩
      have n9_ : Aside0 (Below w.heap.size w w25) := ⟨h9_⟩
      clear BK279
      clear BK280
      clear HB
      clear h0_ h1_ h2_ h3_ h4_ h5_ h6_ h7_ h8_ h9_
      have BK279 := n0_
      have BK280 := n1_
      have BK289 := n2_
      have GW289 := n3_
      have GE289 := n4_
      have NB279_289 := n5_
      have NB289_279 := n6_
      have NB280_289 := n7_
      have NB289_280 := n8_
      have HB := n9_
      clear n0_ n1_ n2_ n3_ n4_ n5_ n6_ n7_ n8_ n9_
      have hHeld : w25.cell? ⟨gb279, 0, none⟩ = some (.int .i64 a0_0) ∧ w25.cell? ⟨gb279, 1, none⟩ = some (.int .i64 a0_1) ∧ w25.cell? ⟨gb280, 0, none⟩ = some (.int .i64 a1_0) ∧ w25.cell? ⟨gb280, 1, none⟩ = some (.int .i64 a1_1) := hS_
      refine norm_ (a' := ?_) ?_ ?_
      rotate_left
      ·simp only [putAll, Act.put, List.setIfInBounds_toArray, List.set_cons_zero, List.set_cons_succ]
       rfl
      refine one_ (i := 11) (N := some 7) #[true, true, true, true, true, true, true, true, true, true, true, true, false, false] rfl rfl (one_of HT_.out (by kernel_rfl)) (by decide) (fun K hK => ?_)
      refine box_step ?hg (N := 7) ?hd (cs := #[.bool false, .int .u64 0, .int .u64 0]) (t := 49) ?hr ?_; (case hd => rfl); (case hg => rfl); (case hr => exact gs_)
      intro gb290 hg w26 hbox hb
      have BK290 := Aside0.mk (hbox)
      have GW290 := Aside0.mk ((by rw [hg]; exact (below_size (bl HB)) : w.heap.size ≤ gb290))
      have GE290 := Aside0.mk ((by rw [hg]; exact (below_size (bl HB)) : w.heap.size ≤ gb290))
      replace HB := Aside0.mk (below_step (bl HB) hb)
      have NB279_290 := Aside0.mk ((by rw [hg]; exact Nat.ne_of_lt (blk_lt (kb BK279)) : gb279 ≠ gb290))
      have NB290_279 := Aside0.mk ((by rw [hg]; exact Nat.ne_of_gt (blk_lt (kb BK279)) : gb290 ≠ gb279))
      replace BK279 := Aside0.mk (blk_below (kb BK279) hb)
      have NB280_290 := Aside0.mk ((by rw [hg]; exact Nat.ne_of_lt (blk_lt (kb BK280)) : gb280 ≠ gb290))
      have NB290_280 := Aside0.mk ((by rw [hg]; exact Nat.ne_of_gt (blk_lt (kb BK280)) : gb290 ≠ gb280))
      replace BK280 := Aside0.mk (blk_below (kb BK280) hb)
      have NB289_290 := Aside0.mk ((by rw [hg]; exact Nat.ne_of_lt (blk_lt (kb BK289)) : gb289 ≠ gb290))
      have NB290_289 := Aside0.mk ((by rw [hg]; exact Nat.ne_of_gt (blk_lt (kb BK289)) : gb290 ≠ gb289))
      replace BK289 := Aside0.mk (blk_below (kb BK289) hb)
      clear hb hbox hg
      refine hK.out _ _ ⟨ck BK279 0, ck BK279 1, ck BK280 0, ck BK280 1⟩ (fun hHeld => ?_)
      clear hK K
      refine norm_ (a' := ?_) ?_ ?_
      rotate_left
      ·show Act.put _ (some 7) _ = _
       simp only [Act.put, List.setIfInBounds_toArray, List.set_cons_zero, List.set_cons_succ, i64_w, i32_w]
       rfl
      exact norm_ nm_ (hJ4_9_10_11 (gb289, gb290) _ ⟨hHeld, (kb BK279), (kb BK280), (kb BK289), (kb BK290), GW289.out, GE289.out, NB279_289.out, NB289_279.out, NB280_289.out, NB289_280.out, NB290_289.out, NB289_290.out, GW290.out, GE290.out, NB279_290.out, NB290_279.out, NB280_290.out, NB290_280.out, (bl HB)⟩)
    rintro ⟨gb289, gb290⟩ w26 ⟨hS_, h0_, h1_, h2_, h3_, h4_, h5_, h6_, h7_, h8_, h9_, h10_, h11_, h12_, h13_, h14_, h15_, h16_, h17_, h18_⟩
    have n0_ : Aside0 (w26.heap[gb279]? = some (.cells #[.int .i64 a0_0, .int .i64 a0_1] 24 (0, 0))) := ⟨h0_⟩
    have n1_ : Aside0 (w26.heap[gb280]? = some (.cells #[.int .i64 a1_0, .int .i64 a1_1] 24 (0, 0))) := ⟨h1_⟩
    have n2_ : Aside0 (w26.heap[gb289]? = some (.cells #[.bool false, .int .u64 0, .int .u64 0] 49 (0, 0))) := ⟨h2_⟩
    have n3_ : Aside0 (w26.heap[gb290]? = some (.cells #[.bool false, .int .u64 0, .int .u64 0] 49 (0, 0))) := ⟨h3_⟩
    have n4_ : Aside0 (w.heap.size ≤ gb289) := ⟨h4_⟩
    have n5_ : Aside0 (w.heap.size ≤ gb289) := ⟨h5_⟩
    have n6_ : Aside0 (gb279 ≠ gb289) := ⟨h6_⟩
    have n7_ : Aside0 (gb289 ≠ gb279) := ⟨h7_⟩
    have n8_ : Aside0 (gb280 ≠ gb289) := ⟨h8_⟩
    have n9_ : Aside0 (gb289 ≠ gb280) := ⟨h9_⟩
    have n10_ : Aside0 (gb290 ≠ gb289) := ⟨h10_⟩
    have n11_ : Aside0 (gb289 ≠ gb290) := ⟨h11_⟩
    have n12_ : Aside0 (w.heap.size ≤ gb290) := ⟨h12_⟩
    have n13_ : Aside0 (w.heap.size ≤ gb290) := ⟨h13_⟩
    have n14_ : Aside0 (gb279 ≠ gb290) := ⟨h14_⟩
    have n15_ : Aside0 (gb290 ≠ gb279) := ⟨h15_⟩
    have n16_ : Aside0 (gb280 ≠ gb290) := ⟨h16_⟩
    have n17_ : Aside0 (gb290 ≠ gb280) := ⟨h17_⟩
    have n18_ : Aside0 (Below w.heap.size w w26) := ⟨h18_⟩
    clear BK279
    clear BK280
    clear HB
    clear h0_ h1_ h2_ h3_ h4_ h5_ h6_ h7_ h8_ h9_ h10_ h11_ h12_ h13_ h14_ h15_ h16_ h17_ h18_
    have BK279 := n0_
    have BK280 := n1_
    have BK289 := n2_
    have BK290 := n3_
    have GW289 := n4_
    have GE289 := n5_
    have NB279_289 := n6_
    have NB289_279 := n7_
    have NB280_289 := n8_
    have NB289_280 := n9_
    have NB290_289 := n10_
    have NB289_290 := n11_
    have GW290 := n12_
    have GE290 := n13_
    have NB279_290 := n14_
    have NB290_279 := n15_
    have NB280_290 := n16_
    have NB290_280 := n17_
    have HB := n18_
    clear n0_ n1_ n2_ n3_ n4_ n5_ n6_ n7_ n8_ n9_ n10_ n11_ n12_ n13_ n14_ n15_ n16_ n17_ n18_
    have hHeld : w26.cell? ⟨gb279, 0, none⟩ = some (.int .i64 a0_0) ∧ w26.cell? ⟨gb279, 1, none⟩ = some (.int .i64 a0_1) ∧ w26.cell? ⟨gb280, 0, none⟩ = some (.int .i64 a1_0) ∧ w26.cell? ⟨gb280, 1, none⟩ = some (.int .i64 a1_1) := hS_
    refine norm_ (a' := ?_) ?_ ?_
    rotate_left
    ·simp only [putAll, Act.put, List.setIfInBounds_toArray, List.set_cons_zero, List.set_cons_succ]
     rfl
    refine one_ (i := 12) (N := none) #[true, true, true, true, true, true, true, true, true, true, true, true, true, false] rfl rfl (one_of HT_.out (by kernel_rfl)) (by decide) (fun K hK => ?_)
    have hs27 : w26.cell? ⟨gb289, 0, none⟩ = some (.bool false) := ck BK289 0
    have hfs27 := blk_frozen BK289.out 0
    have hns27_0 := NB279_289.out
    have hns27_1 := NB280_289.out
    have hns27_3 := NB290_289.out
    have hms27_0 := NB289_279.out
    have hms27_1 := NB289_280.out
    have hms27_3 := NB289_290.out
    have hs28 : w26.cell? ⟨gb289, 1, none⟩ = some (.int .u64 0) := ck BK289 1
    have hfs28 := blk_frozen BK289.out 1
    have hns28_0 := NB279_289.out
    have hns28_1 := NB280_289.out
    have hns28_3 := NB290_289.out
    have hms28_0 := NB289_279.out
    have hms28_1 := NB289_280.out
    have hms28_3 := NB289_290.out
    have hs29 : w26.cell? ⟨gb289, 2, none⟩ = some (.int .u64 0) := ck BK289 2
    have hfs29 := blk_frozen BK289.out 2
    have hns29_0 := NB279_289.out
    have hns29_1 := NB280_289.out
    have hns29_3 := NB290_289.out
    have hms29_0 := NB289_279.out
    have hms29_1 := NB289_280.out
    have hms29_3 := NB289_290.out
    refine skip_ (w1 := ?_) (by rfl) rfl ?_ ?_
    rotate_left
    ·go_simp
     rfl
    refine hK.out _ _ ⟨((cell_far (p := ⟨gb289, _, none⟩) NB279_289.out _).trans (((cell_far (p := ⟨gb289, _, none⟩) NB279_289.out _).trans (((cell_far (p := ⟨gb289, _, none⟩) NB279_289.out _).trans (hHeld.1)))))), ((cell_far (p := ⟨gb289, _, none⟩) NB279_289.out _).trans (((cell_far (p := ⟨gb289, _, none⟩) NB279_289.out _).trans (((cell_far (p := ⟨gb289, _, none⟩) NB279_289.out _).trans (hHeld.2.1)))))), ((cell_far (p := ⟨gb289, _, none⟩) NB280_289.out _).trans (((cell_far (p := ⟨gb289, _, none⟩) NB280_289.out _).trans (((cell_far (p := ⟨gb289, _, none⟩) NB280_289.out _).trans (hHeld.2.2.1)))))), ((cell_far (p := ⟨gb289, _, none⟩) NB280_289.out _).trans (((cell_far (p := ⟨gb289, _, none⟩) NB280_289.out _).trans (((cell_far (p := ⟨gb289, _, none⟩) NB280_289.out _).trans (hHeld.2.2.2))))))⟩ (fun hHeld => ?_)
    clear hK K
    refine one_ (i := 13) (N := none) #[true, true, true, true, true, true, true, true, true, true, true, true, true, true] rfl rfl (one_of HT_.out (by kernel_rfl)) (by decide) (fun K hK => ?_)
    have hs30 : w26.cell? ⟨gb290, 0, none⟩ = some (.bool false) := ck BK290 0
    have hfs30 := blk_frozen BK290.out 0
    have hns30_0 := NB279_290.out
    have hns30_1 := NB280_290.out
    have hns30_2 := NB289_290.out
    have hms30_0 := NB290_279.out
    have hms30_1 := NB290_280.out
    have hms30_2 := NB290_289.out
    have hs31 : w26.cell? ⟨gb290, 1, none⟩ = some (.int .u64 0) := ck BK290 1
    have hfs31 := blk_frozen BK290.out 1
    have hns31_0 := NB279_290.out
    have hns31_1 := NB280_290.out
    have hns31_2 := NB289_290.out
    have hms31_0 := NB290_279.out
    have hms31_1 := NB290_280.out
    have hms31_2 := NB290_289.out
    have hs32 : w26.cell? ⟨gb290, 2, none⟩ = some (.int .u64 0) := ck BK290 2
    have hfs32 := blk_frozen BK290.out 2
    have hns32_0 := NB279_290.out
    have hns32_1 := NB280_290.out
    have hns32_2 := NB289_290.out
    have hms32_0 := NB290_279.out
    have hms32_1 := NB290_280.out
    have hms32_2 := NB290_289.out
    refine skip_ (w1 := ?_) (by rfl) rfl ?_ ?_
    rotate_left
    ·go_simp
     rfl
    refine hK.out _ _ ⟨((cell_far (p := ⟨gb290, _, none⟩) NB279_290.out _).trans (((cell_far (p := ⟨gb290, _, none⟩) NB279_290.out _).trans (((cell_far (p := ⟨gb290, _, none⟩) NB279_290.out _).trans (hHeld.1)))))), ((cell_far (p := ⟨gb290, _, none⟩) NB279_290.out _).trans (((cell_far (p := ⟨gb290, _, none⟩) NB279_290.out _).trans (((cell_far (p := ⟨gb290, _, none⟩) NB279_290.out _).trans (hHeld.2.1)))))), ((cell_far (p := ⟨gb290, _, none⟩) NB280_290.out _).trans (((cell_far (p := ⟨gb290, _, none⟩) NB280_290.out _).trans (((cell_far (p := ⟨gb290, _, none⟩) NB280_290.out _).trans (hHeld.2.2.1)))))), ((cell_far (p := ⟨gb290, _, none⟩) NB280_290.out _).trans (((cell_far (p := ⟨gb290, _, none⟩) NB280_290.out _).trans (((cell_far (p := ⟨gb290, _, none⟩) NB280_290.out _).trans (hHeld.2.2.2))))))⟩ (fun hHeld => ?_)
    clear hK K
    refine done_ (done_of HT_.out (by kernel_rfl)) ?_
    go_upto_region 4 with (fail)
    go_cut [26] (fun v26 wc => ∃ (kq : Nat) (x26_19 : Bool), v26 = .bool x26_19 ∧ Aside0 (ratio_Cmp.j1 kq x26_19 a0_0 a0_1 a1_0 a1_1 t283 t284 t285 t286 t287 t288 = some (r1, r2)) ∧ Aside0 (kq ≤ kj2) ∧ Aside0 (wc.heap[gb279]? = some (.cells #[.int .i64 a0_0, .int .i64 a0_1] 24 (0, 0))) ∧ Aside0 (wc.heap[gb280]? = some (.cells #[.int .i64 a1_0, .int .i64 a1_1] 24 (0, 0))) ∧ Aside0 (wc.heap[gb289]? = some (.cells #[.bool t283, .int .u64 t284, .int .u64 t285] 49 (0, 0))) ∧ Aside0 (wc.heap[gb290]? = some (.cells #[.bool t286, .int .u64 t287, .int .u64 t288] 49 (0, 0))) ∧ Aside0 (Below w.heap.size w wc))
    case first =>
     have H := HC20.out
     clear HC20
     by_cases c33 : (t284 == 0 && (t285 == 0)) = true
     ·rw [if_pos c33] at H
      have c33b0 : (t284 == 0 && (t285 == 0)) = true := c33
      (try (have c33b1 : decide (t284 = 0 && (t285 == 0)) = true := by simpa using c33))
      (try (have c33b2 : (t284 == 0 && (t285 == 0)) = true := by simpa using c33))
      clear c33
      (first | rw [c33b0] | (simp only [i64_w, i32_w]; rw [c33b0]) | skip)
      have H' := Aside0.mk H
      clear H
      have hnb34 := NB289_279.out
      have hnc34 := NB279_289.out
      have hnb35 := NB289_280.out
      have hnc35 := NB280_289.out
      have hnb36 := NB289_290.out
      have hnc36 := NB290_289.out
      have hcz37_0 := ck BK289 0
      have hcz37_1 := ck BK289 1
      have hcz37_2 := ck BK289 2
      have hfz37_0 := blk_frozen BK289.out 0
      have hfz37_1 := blk_frozen BK289.out 1
      have hfz37_2 := blk_frozen BK289.out 2
      have hnb38 := NB290_279.out
      have hnc38 := NB279_290.out
      have hnb39 := NB290_280.out
      have hnc39 := NB280_290.out
      have hcz40_0 := ck BK290 0
      have hcz40_1 := ck BK290 1
      have hcz40_2 := ck BK290 2
      have hfz40_0 := blk_frozen BK290.out 0
      have hfz40_1 := blk_frozen BK290.out 1
      have hfz40_2 := blk_frozen BK290.out 2
      go_wp2
      go_meet
      case rel => exact ⟨_, ((t287 == 0 && (t288 == 0))), (by first | rfl | (simp; done) | (simp [*]; done)), H', ⟨by have := HJ2.out; first | omega | exact Nat.le_refl _⟩, ⟨by (with_reducible repeat (first | refine blk_drewN ?_ _ | refine blk_drew ?_ | refine blk_alloc ?_ _)); refine blk_far ?_ NB279_290.out _; (with_reducible repeat (first | refine blk_drewN ?_ _ | refine blk_drew ?_ | refine blk_alloc ?_ _)); refine blk_far ?_ NB279_290.out _; (with_reducible repeat (first | refine blk_drewN ?_ _ | refine blk_drew ?_ | refine blk_alloc ?_ _)); refine blk_far ?_ NB279_290.out _; (with_reducible repeat (first | refine blk_drewN ?_ _ | refine blk_drew ?_ | refine blk_alloc ?_ _)); refine blk_far ?_ NB279_289.out _; (with_reducible repeat (first | refine blk_drewN ?_ _ | refine blk_drew ?_ | refine blk_alloc ?_ _)); refine blk_far ?_ NB279_289.out _; (with_reducible repeat (first | refine blk_drewN ?_ _ | refine blk_drew ?_ | refine blk_alloc ?_ _)); refine blk_far ?_ NB279_289.out _; (with_reducible repeat (first | refine blk_drewN ?_ _ | refine blk_drew ?_ | refine blk_alloc ?_ _)); exact BK279.out⟩, ⟨by (with_reducible repeat (first | refine blk_drewN ?_ _ | refine blk_drew ?_ | refine blk_alloc ?_ _)); refine blk_far ?_ NB280_290.out _; (with_reducible repeat (first | refine blk_drewN ?_ _ | refine blk_drew ?_ | refine blk_alloc ?_ _)); refine blk_far ?_ NB280_290.out _; (with_reducible repeat (first | refine blk_drewN ?_ _ | refine blk_drew ?_ | refine blk_alloc ?_ _)); refine blk_far ?_ NB280_290.out _; (with_reducible repeat (first | refine blk_drewN ?_ _ | refine blk_drew ?_ | refine blk_alloc ?_ _)); refine blk_far ?_ NB280_289.out _; (with_reducible repeat (first | refine blk_drewN ?_ _ | refine blk_drew ?_ | refine blk_alloc ?_ _)); refine blk_far ?_ NB280_289.out _; (with_reducible repeat (first | refine blk_drewN ?_ _ | refine blk_drew ?_ | refine blk_alloc ?_ _)); refine blk_far ?_ NB280_289.out _; (with_reducible repeat (first | refine blk_drewN ?_ _ | refine blk_drew ?_ | refine blk_alloc ?_ _)); exact BK280.out⟩, ⟨by (with_reducible repeat (first | refine blk_drewN ?_ _ | refine blk_drew ?_ | refine blk_alloc ?_ _)); refine blk_far ?_ NB289_290.out _; (with_reducible repeat (first | refine blk_drewN ?_ _ | refine blk_drew ?_ | refine blk_alloc ?_ _)); refine blk_far ?_ NB289_290.out _; (with_reducible repeat (first | refine blk_drewN ?_ _ | refine blk_drew ?_ | refine blk_alloc ?_ _)); refine blk_far ?_ NB289_290.out _; (with_reducible repeat (first | refine blk_drewN ?_ _ | refine blk_drew ?_ | refine blk_alloc ?_ _)); refine blk_put (cs := #[.bool t283, .int .u64 t284, .int .u64 0]) ?_ 2 _ rfl; (with_reducible repeat (first | refine blk_drewN ?_ _ | refine blk_drew ?_ | refine blk_alloc ?_ _)); refine blk_put (cs := #[.bool t283, .int .u64 0, .int .u64 0]) ?_ 1 _ rfl; (with_reducible repeat (first | refine blk_drewN ?_ _ | refine blk_drew ?_ | refine blk_alloc ?_ _)); refine blk_put (cs := #[.bool false, .int .u64 0, .int .u64 0]) ?_ 0 _ rfl; (with_reducible repeat (first | refine blk_drewN ?_ _ | refine blk_drew ?_ | refine blk_alloc ?_ _)); exact BK289.out⟩, ⟨by (with_reducible repeat (first | refine blk_drewN ?_ _ | refine blk_drew ?_ | refine blk_alloc ?_ _)); refine blk_put (cs := #[.bool t286, .int .u64 t287, .int .u64 0]) ?_ 2 _ rfl; (with_reducible repeat (first | refine blk_drewN ?_ _ | refine blk_drew ?_ | refine blk_alloc ?_ _)); refine blk_put (cs := #[.bool t286, .int .u64 0, .int .u64 0]) ?_ 1 _ rfl; (with_reducible repeat (first | refine blk_drewN ?_ _ | refine blk_drew ?_ | refine blk_alloc ?_ _)); refine blk_put (cs := #[.bool false, .int .u64 0, .int .u64 0]) ?_ 0 _ rfl; (with_reducible repeat (first | refine blk_drewN ?_ _ | refine blk_drew ?_ | refine blk_alloc ?_ _)); refine blk_far ?_ NB290_289.out _; (with_reducible repeat (first | refine blk_drewN ?_ _ | refine blk_drew ?_ | refine blk_alloc ?_ _)); refine blk_far ?_ NB290_289.out _; (with_reducible repeat (first | refine blk_drewN ?_ _ | refine blk_drew ?_ | refine blk_alloc ?_ _)); refine blk_far ?_ NB290_289.out _; (with_reducible repeat (first | refine blk_drewN ?_ _ | refine blk_drew ?_ | refine blk_alloc ?_ _)); exact BK290.out⟩, ⟨bl HB⟩⟩
     ·rw [if_neg c33] at H
      have c33b0 : (t284 == 0 && (t285 == 0)) = false := by simpa using c33
      (try (have c33b1 : decide (t284 = 0 && (t285 == 0)) = false := by simpa using c33))
      (try (have c33b2 : (t284 == 0 && (t285 == 0)) = false := by simpa using c33))
      (try (have c33b3 : ¬ (t284 = 0 && (t285 == 0)) := by simpa using c33))
      clear c33
      (first | rw [c33b0] | (simp only [i64_w, i32_w]; rw [c33b0]) | skip)
      have H' := Aside0.mk H
      clear H
      have hnb41 := NB289_279.out
      have hnc41 := NB279_289.out
      have hnb42 := NB289_280.out
      have hnc42 := NB280_289.out
      have hnb43 := NB289_290.out
      have hnc43 := NB290_289.out
      have hcz44_0 := ck BK289 0
      have hcz44_1 := ck BK289 1
      have hcz44_2 := ck BK289 2
      have hfz44_0 := blk_frozen BK289.out 0
      have hfz44_1 := blk_frozen BK289.out 1
      have hfz44_2 := blk_frozen BK289.out 2
      go_wp2
      go_meet
      case rel => exact ⟨_, (false), (by first | rfl | (simp; done) | (simp [*]; done)), H', ⟨by have := HJ2.out; first | omega | exact Nat.le_refl _⟩, ⟨by (with_reducible repeat (first | refine blk_drewN ?_ _ | refine blk_drew ?_ | refine blk_alloc ?_ _)); refine blk_far ?_ NB279_290.out _; (with_reducible repeat (first | refine blk_drewN ?_ _ | refine blk_drew ?_ | refine blk_alloc ?_ _)); refine blk_far ?_ NB279_290.out _; (with_reducible repeat (first | refine blk_drewN ?_ _ | refine blk_drew ?_ | refine blk_alloc ?_ _)); refine blk_far ?_ NB279_290.out _; (with_reducible repeat (first | refine blk_drewN ?_ _ | refine blk_drew ?_ | refine blk_alloc ?_ _)); refine blk_far ?_ NB279_289.out _; (with_reducible repeat (first | refine blk_drewN ?_ _ | refine blk_drew ?_ | refine blk_alloc ?_ _)); refine blk_far ?_ NB279_289.out _; (with_reducible repeat (first | refine blk_drewN ?_ _ | refine blk_drew ?_ | refine blk_alloc ?_ _)); refine blk_far ?_ NB279_289.out _; (with_reducible repeat (first | refine blk_drewN ?_ _ | refine blk_drew ?_ | refine blk_alloc ?_ _)); exact BK279.out⟩, ⟨by (with_reducible repeat (first | refine blk_drewN ?_ _ | refine blk_drew ?_ | refine blk_alloc ?_ _)); refine blk_far ?_ NB280_290.out _; (with_reducible repeat (first | refine blk_drewN ?_ _ | refine blk_drew ?_ | refine blk_alloc ?_ _)); refine blk_far ?_ NB280_290.out _; (with_reducible repeat (first | refine blk_drewN ?_ _ | refine blk_drew ?_ | refine blk_alloc ?_ _)); refine blk_far ?_ NB280_290.out _; (with_reducible repeat (first | refine blk_drewN ?_ _ | refine blk_drew ?_ | refine blk_alloc ?_ _)); refine blk_far ?_ NB280_289.out _; (with_reducible repeat (first | refine blk_drewN ?_ _ | refine blk_drew ?_ | refine blk_alloc ?_ _)); refine blk_far ?_ NB280_289.out _; (with_reducible repeat (first | refine blk_drewN ?_ _ | refine blk_drew ?_ | refine blk_alloc ?_ _)); refine blk_far ?_ NB280_289.out _; (with_reducible repeat (first | refine blk_drewN ?_ _ | refine blk_drew ?_ | refine blk_alloc ?_ _)); exact BK280.out⟩, ⟨by (with_reducible repeat (first | refine blk_drewN ?_ _ | refine blk_drew ?_ | refine blk_alloc ?_ _)); refine blk_far ?_ NB289_290.out _; (with_reducible repeat (first | refine blk_drewN ?_ _ | refine blk_drew ?_ | refine blk_alloc ?_ _)); refine blk_far ?_ NB289_290.out _; (with_reducible repeat (first | refine blk_drewN ?_ _ | refine blk_drew ?_ | refine blk_alloc ?_ _)); refine blk_far ?_ NB289_290.out _; (with_reducible repeat (first | refine blk_drewN ?_ _ | refine blk_drew ?_ | refine blk_alloc ?_ _)); refine blk_put (cs := #[.bool t283, .int .u64 t284, .int .u64 0]) ?_ 2 _ rfl; (with_reducible repeat (first | refine blk_drewN ?_ _ | refine blk_drew ?_ | refine blk_alloc ?_ _)); refine blk_put (cs := #[.bool t283, .int .u64 0, .int .u64 0]) ?_ 1 _ rfl; (with_reducible repeat (first | refine blk_drewN ?_ _ | refine blk_drew ?_ | refine blk_alloc ?_ _)); refine blk_put (cs := #[.bool false, .int .u64 0, .int .u64 0]) ?_ 0 _ rfl; (with_reducible repeat (first | refine blk_drewN ?_ _ | refine blk_drew ?_ | refine blk_alloc ?_ _)); exact BK289.out⟩, ⟨by (with_reducible repeat (first | refine blk_drewN ?_ _ | refine blk_drew ?_ | refine blk_alloc ?_ _)); refine blk_put (cs := #[.bool t286, .int .u64 t287, .int .u64 0]) ?_ 2 _ rfl; (with_reducible repeat (first | refine blk_drewN ?_ _ | refine blk_drew ?_ | refine blk_alloc ?_ _)); refine blk_put (cs := #[.bool t286, .int .u64 0, .int .u64 0]) ?_ 1 _ rfl; (with_reducible repeat (first | refine blk_drewN ?_ _ | refine blk_drew ?_ | refine blk_alloc ?_ _)); refine blk_put (cs := #[.bool false, .int .u64 0, .int .u64 0]) ?_ 0 _ rfl; (with_reducible repeat (first | refine blk_drewN ?_ _ | refine blk_drew ?_ | refine blk_alloc ?_ _)); refine blk_far ?_ NB290_289.out _; (with_reducible repeat (first | refine blk_drewN ?_ _ | refine blk_drew ?_ | refine blk_alloc ?_ _)); refine blk_far ?_ NB290_289.out _; (with_reducible repeat (first | refine blk_drewN ?_ _ | refine blk_drew ?_ | refine blk_alloc ?_ _)); refine blk_far ?_ NB290_289.out _; (with_reducible repeat (first | refine blk_drewN ?_ _ | refine blk_drew ?_ | refine blk_alloc ?_ _)); exact BK290.out⟩, ⟨bl HB⟩⟩
    case rest =>
     clear HC20
     try clear c2
     try clear p2
     try clear c3
     try clear c4
     try clear c27
     try clear c33
     try clear c33b0
     try clear c33b1
     try clear c33b2
     try clear c34
     try clear c35
     try clear c36
     try clear c38
     try clear c39
     try clear c41
     try clear c42
     try clear c43
     try clear hcz37_0
     try clear hcz37_1
     try clear hcz37_2
     try clear hcz40_0
     try clear hcz40_1
     try clear hcz40_2
     try clear hcz44_0
     try clear hcz44_1
     try clear hcz44_2
     try clear hfz37_0
     try clear hfz37_1
     try clear hfz37_2
     try clear hfz40_0
     try clear hfz40_1
     try clear hfz40_2
     try clear hfz44_0
     try clear hfz44_1
     try clear hfz44_2
     obtain ⟨kq, x26_19, rfl, HA, HJ19, BK279, BK280, BK289, BK290, HB⟩ := hcut
     cases kq with
     | zero => exact absurd HA.out (by simp [ratio_Cmp.j1])
     | succ kj19 =>
      have H := HA.out
      clear HA
      simp only [ratio_Cmp.j1] at H
      by_cases c45 : x26_19 = true
      ·subst c45
       have H1 : (some (0, 0)) = some (r1, r2) := by rw [if_pos rfl] at H; exact H
       clear H
       have H := H1
       clear H1
       simp only [Option.some.injEq, Prod.mk.injEq] at H
       obtain ⟨rfl, rfl⟩ := H
       go_wp2
       go_ret2
       exact ⟨by first | rfl | (simp [errW_none, errW_some] <;> rfl) | (simp [*, errW_none, errW_some] <;> rfl), bl HB⟩
      ·replace c45 := Bool.eq_false_iff.mpr c45
       subst c45
       have H1 : (if a0_0 < 0 then (ratio_Cmp.j2 kj19 (decide (a1_0 ≥ 0)) a0_0 a0_1 a1_0 a1_1 t283 t284 t285 t286 t287 t288) else (ratio_Cmp.j2 kj19 false a0_0 a0_1 a1_0 a1_1 t283 t284 t285 t286 t287 t288)) = some (r1, r2) := by rw [if_neg (show ¬ (false = true) by decide)] at H; exact H
       clear H
       have H := H1
       clear H1
       have HC46 := Aside0.mk H
       clear H
       go_upto_region 6 with (fail)
       go_cut [37] (fun v37 wc => ∃ (kq : Nat) (x37_45 : Bool), v37 = .bool x37_45 ∧ Aside0 (ratio_Cmp.j2 kq x37_45 a0_0 a0_1 a1_0 a1_1 t283 t284 t285 t286 t287 t288 = some (r1, r2)) ∧ Aside0 (kq ≤ kj19) ∧ Aside0 (wc.heap[gb279]? = some (.cells #[.int .i64 a0_0, .int .i64 a0_1] 24 (0, 0))) ∧ Aside0 (wc.heap[gb280]? = some (.cells #[.int .i64 a1_0, .int .i64 a1_1] 24 (0, 0))) ∧ Aside0 (wc.heap[gb289]? = some (.cells #[.bool t283, .int .u64 t284, .int .u64 t285] 49 (0, 0))) ∧ Aside0 (wc.heap[gb290]? = some (.cells #[.bool t286, .int .u64 t287, .int .u64 t288] 49 (0, 0))) ∧ Aside0 (Below w.heap.size w wc))
       case first =>
        have H := HC46.out
        clear HC46
        by_cases c47 : a0_0 < 0
        ·rw [if_pos c47] at H
         have c47b0 : decide (a0_0 < 0) = true := decide_eq_true c47
         clear c47
         (first | rw [c47b0] | (simp only [i64_w, i32_w]; rw [c47b0]) | skip)
         have H' := Aside0.mk H
         clear H
         have hnb48 := NB279_280.out
         have hnc48 := NB280_279.out
         have hnb49 := NB279_289.out
         have hnc49 := NB289_279.out
         have hnb50 := NB279_290.out
         have hnc50 := NB290_279.out
         have hcz51_0 := ck BK279 0
         have hcz51_1 := ck BK279 1
         have hfz51_0 := blk_frozen BK279.out 0
         have hfz51_1 := blk_frozen BK279.out 1
         have hnb52 := NB280_289.out
         have hnc52 := NB289_280.out
         have hnb53 := NB280_290.out
         have hnc53 := NB290_280.out
         have hcz54_0 := ck BK280 0
         have hcz54_1 := ck BK280 1
         have hfz54_0 := blk_frozen BK280.out 0
         have hfz54_1 := blk_frozen BK280.out 1
         go_wp2
         go_meet
         case rel => exact ⟨_, (decide (a1_0 ≥ 0)), (by first | rfl | (simp; done) | (simp [*]; done)), H', ⟨by have := HJ2.out; have := HJ19.out; first | omega | exact Nat.le_refl _⟩, ⟨kb BK279⟩, ⟨kb BK280⟩, ⟨kb BK289⟩, ⟨kb BK290⟩, ⟨bl HB⟩⟩
        ·rw [if_neg c47] at H
         have c47b0 : decide (a0_0 < 0) = false := decide_eq_false c47
         clear c47
         (first | rw [c47b0] | (simp only [i64_w, i32_w]; rw [c47b0]) | skip)
         have H' := Aside0.mk H
         clear H
         have hnb55 := NB279_280.out
         have hnc55 := NB280_279.out
         have hnb56 := NB279_289.out
         have hnc56 := NB289_279.out
         have hnb57 := NB279_290.out
         have hnc57 := NB290_279.out
         have hcz58_0 := ck BK279 0
         have hcz58_1 := ck BK279 1
         have hfz58_0 := blk_frozen BK279.out 0
         have hfz58_1 := blk_frozen BK279.out 1
         go_wp2
         go_meet
         case rel => exact ⟨_, (false), (by first | rfl | (simp; done) | (simp [*]; done)), H', ⟨by have := HJ2.out; have := HJ19.out; first | omega | exact Nat.le_refl _⟩, ⟨kb BK279⟩, ⟨kb BK280⟩, ⟨kb BK289⟩, ⟨kb BK290⟩, ⟨bl HB⟩⟩
       case rest =>
        clear HC46
        try clear c2
        try clear p2
        try clear c3
        try clear c4
        try clear c5
        try clear c27
        try clear c33
        try clear c33b0
        try clear c33b1
        try clear c33b2
        try clear c34
        try clear c35
        try clear c36
        try clear c38
        try clear c39
        try clear c41
        try clear c42
        try clear c43
        try clear c45
        try clear c47
        try clear c47b0
        try clear c48
        try clear c49
        try clear c50
        try clear c52
        try clear c53
        try clear c55
        try clear c56
        try clear c57
        try clear hcz37_0
        try clear hcz37_1
        try clear hcz37_2
        try clear hcz40_0
        try clear hcz40_1
        try clear hcz40_2
        try clear hcz44_0
        try clear hcz44_1
        try clear hcz44_2
        try clear hcz51_0
        try clear hcz51_1
        try clear hcz54_0
        try clear hcz54_1
        try clear hcz58_0
        try clear hcz58_1
        try clear hfz37_0
        try clear hfz37_1
        try clear hfz37_2
        try clear hfz40_0
        try clear hfz40_1
        try clear hfz40_2
        try clear hfz44_0
        try clear hfz44_1
        try clear hfz44_2
        try clear hfz51_0
        try clear hfz51_1
        try clear hfz54_0
        try clear hfz54_1
        try clear hfz58_0
        try clear hfz58_1
        try clear p2
        obtain ⟨kq, x37_45, rfl, HA, HJ45, BK279, BK280, BK289, BK290, HB⟩ := hcut
        cases kq with
        | zero => exact absurd HA.out (by simp [ratio_Cmp.j2])
        | succ kj45 =>
         have H := HA.out
         clear HA
         simp only [ratio_Cmp.j2] at H
         by_cases c59 : x37_45 = true
         ·subst c59
          have H1 : (some ((-1), 0)) = some (r1, r2) := by rw [if_pos rfl] at H; exact H
          clear H
          have H := H1
          clear H1
          simp only [Option.some.injEq, Prod.mk.injEq] at H
          obtain ⟨rfl, rfl⟩ := H
          go_wp2
          go_ret2
          exact ⟨by first | rfl | (simp [errW_none, errW_some] <;> rfl) | (simp [*, errW_none, errW_some] <;> rfl), bl HB⟩
         ·replace c59 := Bool.eq_false_iff.mpr c59
          subst c59
          have H1 : (if a0_0 ≥ 0 then (ratio_Cmp.j3 kj45 (decide (a1_0 < 0)) a0_0 a0_1 t283 t284 t285 t286 t287 t288) else (ratio_Cmp.j3 kj45 false a0_0 a0_1 t283 t284 t285 t286 t287 t288)) = some (r1, r2) := by rw [if_neg (show ¬ (false = true) by decide)] at H; exact H
          clear H
          have H := H1
          clear H1
          have HC60 := Aside0.mk H
          clear H
          go_upto_region 8 with (fail)
          go_cut [46] (fun v46 wc => ∃ (kq : Nat) (x46_59 : Bool), v46 = .bool x46_59 ∧ Aside0 (ratio_Cmp.j3 kq x46_59 a0_0 a0_1 t283 t284 t285 t286 t287 t288 = some (r1, r2)) ∧ Aside0 (kq ≤ kj45) ∧ Aside0 (wc.heap[gb279]? = some (.cells #[.int .i64 a0_0, .int .i64 a0_1] 24 (0, 0))) ∧ Aside0 (wc.heap[gb280]? = some (.cells #[.int .i64 a1_0, .int .i64 a1_1] 24 (0, 0))) ∧ Aside0 (wc.heap[gb289]? = some (.cells #[.bool t283, .int .u64 t284, .int .u64 t285] 49 (0, 0))) ∧ Aside0 (wc.heap[gb290]? = some (.cells #[.bool t286, .int .u64 t287, .int .u64 t288] 49 (0, 0))) ∧ Aside0 (Below w.heap.size w wc))
          case first =>
           have H := HC60.out
           clear HC60
           by_cases c61 : a0_0 ≥ 0
           ·rw [if_pos c61] at H
            have c61b0 : decide (0 ≤ a0_0) = true := decide_eq_true c61
            clear c61
            (first | rw [c61b0] | (simp only [i64_w, i32_w]; rw [c61b0]) | skip)
            have H' := Aside0.mk H
            clear H
            have hnb62 := NB279_280.out
            have hnc62 := NB280_279.out
            have hnb63 := NB279_289.out
            have hnc63 := NB289_279.out
            have hnb64 := NB279_290.out
            have hnc64 := NB290_279.out
            have hcz65_0 := ck BK279 0
            have hcz65_1 := ck BK279 1
            have hfz65_0 := blk_frozen BK279.out 0
            have hfz65_1 := blk_frozen BK279.out 1
            have hnb66 := NB280_289.out
            have hnc66 := NB289_280.out
            have hnb67 := NB280_290.out
            have hnc67 := NB290_280.out
            have hcz68_0 := ck BK280 0
            have hcz68_1 := ck BK280 1
            have hfz68_0 := blk_frozen BK280.out 0
            have hfz68_1 := blk_frozen BK280.out 1
            go_wp2
            go_meet
            case rel => exact ⟨_, (decide (a1_0 < 0)), (by first | rfl | (simp; done) | (simp [*]; done)), H', ⟨by have := HJ2.out; have := HJ19.out; have := HJ45.out; first | omega | exact Nat.le_refl _⟩, ⟨kb BK279⟩, ⟨kb BK280⟩, ⟨kb BK289⟩, ⟨kb BK290⟩, ⟨bl HB⟩⟩
           ·rw [if_neg c61] at H
            have c61b0 : decide (0 ≤ a0_0) = false := decide_eq_false c61
            clear c61
            (first | rw [c61b0] | (simp only [i64_w, i32_w]; rw [c61b0]) | skip)
            have H' := Aside0.mk H
            clear H
            have hnb69 := NB279_280.out
            have hnc69 := NB280_279.out
            have hnb70 := NB279_289.out
            have hnc70 := NB289_279.out
            have hnb71 := NB279_290.out
            have hnc71 := NB290_279.out
            have hcz72_0 := ck BK279 0
            have hcz72_1 := ck BK279 1
            have hfz72_0 := blk_frozen BK279.out 0
            have hfz72_1 := blk_frozen BK279.out 1
            go_wp2
            go_meet
            case rel => exact ⟨_, (false), (by first | rfl | (simp; done) | (simp [*]; done)), H', ⟨by have := HJ2.out; have := HJ19.out; have := HJ45.out; first | omega | exact Nat.le_refl _⟩, ⟨kb BK279⟩, ⟨kb BK280⟩, ⟨kb BK289⟩, ⟨kb BK290⟩, ⟨bl HB⟩⟩
          case rest =>
           clear HC60
           try clear c2
           try clear p2
           try clear c3
           try clear c4
           try clear c5
           try clear c6
           try clear c7
           try clear c27
           try clear c33
           try clear c33b0
           try clear c33b1
           try clear c33b2
           try clear c34
           try clear c35
           try clear c36
           try clear c38
           try clear c39
           try clear c41
           try clear c42
           try clear c43
           try clear c45
           try clear c47
           try clear c47b0
           try clear c48
           try clear c49
           try clear c50
           try clear c52
           try clear c53
           try clear c55
           try clear c56
           try clear c57
           try clear c59
           try clear c61
           try clear c61b0
           try clear c62
           try clear c63
           try clear c64
           try clear c66
           try clear c67
           try clear c69
           try clear c70
           try clear c71
           try clear hcz37_0
           try clear hcz37_1
           try clear hcz37_2
           try clear hcz40_0
           try clear hcz40_1
           try clear hcz40_2
           try clear hcz44_0
           try clear hcz44_1
           try clear hcz44_2
           try clear hcz51_0
           try clear hcz51_1
           try clear hcz54_0
           try clear hcz54_1
           try clear hcz58_0
           try clear hcz58_1
           try clear hcz65_0
           try clear hcz65_1
           try clear hcz68_0
           try clear hcz68_1
           try clear hcz72_0
           try clear hcz72_1
           try clear hfz37_0
           try clear hfz37_1
           try clear hfz37_2
           try clear hfz40_0
           try clear hfz40_1
           try clear hfz40_2
           try clear hfz44_0
           try clear hfz44_1
           try clear hfz44_2
           try clear hfz51_0
           try clear hfz51_1
           try clear hfz54_0
           try clear hfz54_1
           try clear hfz58_0
           try clear hfz58_1
           try clear hfz65_0
           try clear hfz65_1
           try clear hfz68_0
           try clear hfz68_1
           try clear hfz72_0
           try clear hfz72_1
           try clear p2
           obtain ⟨kq, x46_59, rfl, HA, HJ59, BK279, BK280, BK289, BK290, HB⟩ := hcut
           cases kq with
           | zero => exact absurd HA.out (by simp [ratio_Cmp.j3])
           | succ kj59 =>
            have H := HA.out
            clear HA
            simp only [ratio_Cmp.j3] at H
            by_cases c73 : x46_59 = true
            ·subst c73
             have H1 : (some (1, 0)) = some (r1, r2) := by rw [if_pos rfl] at H; exact H
             clear H
             have H := H1
             clear H1
             simp only [Option.some.injEq, Prod.mk.injEq] at H
             obtain ⟨rfl, rfl⟩ := H
             go_wp2
             go_ret2
             exact ⟨by first | rfl | (simp [errW_none, errW_some] <;> rfl) | (simp [*, errW_none, errW_some] <;> rfl), bl HB⟩
            ·replace c73 := Bool.eq_false_iff.mpr c73
             subst c73
             have H1 : (if a0_0 < 0 then ((wide_Cmp.f kj59 t287 t288 t284 t285).bind fun t291 => (some (t291, 0))) else ((wide_Cmp.f kj59 t284 t285 t287 t288).bind fun t292 => (some (t292, 0)))) = some (r1, r2) := by rw [if_neg (show ¬ (false = true) by decide)] at H; exact H
             clear H
             have H := H1
             clear H1
             by_cases c74 : a0_0 < 0
             ·rw [if_pos c74] at H
              have c74b0 : decide (a0_0 < 0) = true := decide_eq_true c74
              clear c74
              replace H := Option.bind_eq_some_iff.mp H
              obtain ⟨t291, A750, H⟩ := H
              replace H : (some (t291, 0)) = some (r1, r2) := H
              have A75 := Aside0.mk A750
              clear A750
              simp only [Option.some.injEq, Prod.mk.injEq] at H
              obtain ⟨rfl, rfl⟩ := H
              have hnb76 := NB279_280.out
              have hnc76 := NB280_279.out
              have hnb77 := NB279_289.out
              have hnc77 := NB289_279.out
              have hnb78 := NB279_290.out
              have hnc78 := NB290_279.out
              have hcz79_0 := ck BK279 0
              have hcz79_1 := ck BK279 1
              have hfz79_0 := blk_frozen BK279.out 0
              have hfz79_1 := blk_frozen BK279.out 1
              have hnb80 := NB290_280.out
              have hnc80 := NB280_290.out
              have hnb81 := NB290_289.out
              have hnc81 := NB289_290.out
              have hcz82_0 := ck BK290 0
              have hcz82_1 := ck BK290 1
              have hcz82_2 := ck BK290 2
              have hfz82_0 := blk_frozen BK290.out 0
              have hfz82_1 := blk_frozen BK290.out 1
              have hfz82_2 := blk_frozen BK290.out 2
              have hnb83 := NB289_280.out
              have hnc83 := NB280_289.out
              have hcz84_0 := ck BK289 0
              have hcz84_1 := ck BK289 1
              have hcz84_2 := ck BK289 2
              have hfz84_0 := blk_frozen BK289.out 0
              have hfz84_1 := blk_frozen BK289.out 1
              have hfz84_2 := blk_frozen BK289.out 2
              go_wp2_with (first | ((with_reducible refine gate_callee (f := 34) rfl ?_); refine goesL_ (some 63) rfl rfl Tryd.func34 (by kernel_rfl) rfl #[.agg #[.int .u64 t287, .int .u64 t288], .agg #[.int .u64 t284, .int .u64 t285]] rfl gm_ ?_; (with_reducible refine (wide_Cmp.calls kj59 t287 t288 t284 t285 t291 _ A75.out).mono ?_); rintro e w85 ⟨rfl, hb⟩; refine ⟨_, rfl, ?_⟩; replace BK279 := Aside0.mk (blk_below (kb BK279) hb); replace BK280 := Aside0.mk (blk_below (kb BK280) hb); replace BK289 := Aside0.mk (blk_below (kb BK289) hb); replace BK290 := Aside0.mk (blk_below (kb BK290) hb); replace HB := Aside0.mk (below_step (bl HB) hb); (try clear hb); (try clear hb2); (try clear hk); (try clear hi)))
              go_ret2
              exact ⟨by first | rfl | (simp [errW_none, errW_some] <;> rfl) | (simp [*, errW_none, errW_some] <;> rfl), bl HB⟩
             ·rw [if_neg c74] at H
              have c74b0 : decide (a0_0 < 0) = false := decide_eq_false c74
              clear c74
              replace H := Option.bind_eq_some_iff.mp H
              obtain ⟨t292, A860, H⟩ := H
              replace H : (some (t292, 0)) = some (r1, r2) := H
              have A86 := Aside0.mk A860
              clear A860
              simp only [Option.some.injEq, Prod.mk.injEq] at H
              obtain ⟨rfl, rfl⟩ := H
              have hnb87 := NB279_280.out
              have hnc87 := NB280_279.out
              have hnb88 := NB279_289.out
              have hnc88 := NB289_279.out
              have hnb89 := NB279_290.out
              have hnc89 := NB290_279.out
              have hcz90_0 := ck BK279 0
              have hcz90_1 := ck BK279 1
              have hfz90_0 := blk_frozen BK279.out 0
              have hfz90_1 := blk_frozen BK279.out 1
              have hnb91 := NB289_280.out
              have hnc91 := NB280_289.out
              have hnb92 := NB289_290.out
              have hnc92 := NB290_289.out
              have hcz93_0 := ck BK289 0
              have hcz93_1 := ck BK289 1
              have hcz93_2 := ck BK289 2
              have hfz93_0 := blk_frozen BK289.out 0
              have hfz93_1 := blk_frozen BK289.out 1
              have hfz93_2 := blk_frozen BK289.out 2
              have hnb94 := NB290_280.out
              have hnc94 := NB280_290.out
              have hcz95_0 := ck BK290 0
              have hcz95_1 := ck BK290 1
              have hcz95_2 := ck BK290 2
              have hfz95_0 := blk_frozen BK290.out 0
              have hfz95_1 := blk_frozen BK290.out 1
              have hfz95_2 := blk_frozen BK290.out 2
              go_wp2_with (first | ((with_reducible refine gate_callee (f := 34) rfl ?_); refine goesL_ (some 68) rfl rfl Tryd.func34 (by kernel_rfl) rfl #[.agg #[.int .u64 t284, .int .u64 t285], .agg #[.int .u64 t287, .int .u64 t288]] rfl gm_ ?_; (with_reducible refine (wide_Cmp.calls kj59 t284 t285 t287 t288 t292 _ A86.out).mono ?_); rintro e w96 ⟨rfl, hb⟩; refine ⟨_, rfl, ?_⟩; replace BK279 := Aside0.mk (blk_below (kb BK279) hb); replace BK280 := Aside0.mk (blk_below (kb BK280) hb); replace BK289 := Aside0.mk (blk_below (kb BK289) hb); replace BK290 := Aside0.mk (blk_below (kb BK290) hb); replace HB := Aside0.mk (below_step (bl HB) hb); (try clear hb); (try clear hb2); (try clear hk); (try clear hi)))
              go_ret2
              exact ⟨by first | rfl | (simp [errW_none, errW_some] <;> rfl) | (simp [*, errW_none, errW_some] <;> rfl), bl HB⟩

end Go.Proofs.YtglcjhjmncolpaaDoor.Q
