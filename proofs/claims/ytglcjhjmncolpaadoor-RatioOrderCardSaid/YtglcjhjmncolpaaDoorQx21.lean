-- Written for this claim by a program of the session (wip/print2). Not trusted: Lean checks it.
import Derived.Test.YtglcjhjmncolpaaDoorQx0
import Derived.Test.YtglcjhjmncolpaaDoorQx9
import Derived.Test.YtglcjhjmncolpaaDoorQx10
import Derived.Test.YtglcjhjmncolpaaDoorQx11
import Derived.Test.YtglcjhjmncolpaaDoorQx13
import Derived.Test.YtglcjhjmncolpaaDoorQx19
import Derived.Test.YtglcjhjmncolpaaDoorQx20
namespace Go.Proofs.YtglcjhjmncolpaaDoor.Q
open Go.RowKit Go.Proofs.YtglcjhjmncolpaaDoorW.PrintWords Go.Proofs.YtglcjhjmncolpaaDoorW.PrintLast Go.Proofs.YtglcjhjmncolpaaDoorW.PrintMore
attribute [local go_sem] max2_int min2_int max_two min_two max_three min_three max_four min_four   -- for this text's walks alone
set_option linter.unusedVariables false
set_option linter.unusedSimpArgs false

/-! ### pochoirlaw03_RatioOrder: function 4 -/
def pochoirlaw03_RatioOrder.j0 : Nat → Int → Int → Int → Int → Bool → Int → Int → Option (Bool)
 | 0, _, _, _, _, _, _, _ => none
 | k + 1, x9, x10, x11, x12, x44, x457000, x457001 => if x44 = true then (none) else ((pochoirref03_May.f k x457000 x457001).bind fun t467 => (if t467 = true then ((pochoirref03_Floor.f x457000 x457001).bind fun t468 => (if x9 = t468 then (if x10 = 0 then ((pochoirref03_Round.f k x457000 x457001).bind fun t469 => (if x11 = t469 then (some (x12 == 0)) else (none))) else (none)) else (none))) else (if x9 = 0 then (if x10 = 1 then (if x11 = 0 then (some (x12 == 1)) else (none)) else (none)) else (none))))
def pochoirlaw03_RatioOrder.f (k : Nat) (a0_0 : Int) (a0_1 : Int) (a1_0 : Int) (a1_1 : Int) : Option (Bool) := (pochoirlaw03_awake.f k).bind fun t458 => (if t458 = true then ((ratio_Cmp.f k a0_0 a0_1 a1_0 a1_1).bind fun bt459 => ((pochoirref03_Cmp.f k a0_0 a0_1 a1_0 a1_1).bind fun bt461 => ((ratio_Floor.f k a0_0 a0_1).bind fun bt463 => ((ratio_Round.f k a0_0 a0_1).bind fun bt465 => (if bt459.1 = bt461.1 then (pochoirlaw03_RatioOrder.j0 k bt463.1 bt463.2 bt465.1 bt465.2 (bt459.2 != bt461.2) a0_0 a0_1) else (pochoirlaw03_RatioOrder.j0 k bt463.1 bt463.2 bt465.1 bt465.2 true a0_0 a0_1)))))) else (none))
theorem pochoirlaw03_RatioOrder.mono_l : ∀ k, (∀ y0 y1 y2 y3 y4 y5 y6, LeO (pochoirlaw03_RatioOrder.j0 k y0 y1 y2 y3 y4 y5 y6) (pochoirlaw03_RatioOrder.j0 (k + 1) y0 y1 y2 y3 y4 y5 y6))
 | 0 => fun _ _ _ _ _ _ _ r h => by simp [pochoirlaw03_RatioOrder.j0] at h
 | k + 1 => by
  have ih0 := pochoirlaw03_RatioOrder.mono_l k
  ·intro y0 y1 y2 y3 y4 y5 y6
   unfold pochoirlaw03_RatioOrder.j0
   repeat' first
   | (with_reducible exact ih0 _ _ _ _ _ _ _)
   | (with_reducible exact pochoirlaw03_awake.mono _)
   | (with_reducible exact pochoirref03_Cmp.mono _ _ _ _ _)
   | (with_reducible exact pochoirref03_May.mono _ _ _)
   | (with_reducible exact pochoirref03_Round.mono _ _ _)
   | (with_reducible exact ratio_Cmp.mono _ _ _ _ _)
   | (with_reducible exact ratio_Floor.mono _ _ _)
   | (with_reducible exact ratio_Round.mono _ _ _)
   | (with_reducible exact LeO.refl _)
   | (with_reducible exact LeO.none _)
   | (with_reducible refine LeO.ite ?_ ?_)
   | (with_reducible refine LeO.bind ?_ (fun _ => ?_))
   | exact ih0 _ _ _ _ _ _ _
   | exact pochoirlaw03_awake.mono _
   | exact pochoirref03_Cmp.mono _ _ _ _ _
   | exact pochoirref03_May.mono _ _ _
   | exact pochoirref03_Round.mono _ _ _
   | exact ratio_Cmp.mono _ _ _ _ _
   | exact ratio_Floor.mono _ _ _
   | exact ratio_Round.mono _ _ _
   | exact LeO.none _
   | refine LeO.ite ?_ ?_
   | refine LeO.bind ?_ (fun _ => ?_)
theorem pochoirlaw03_RatioOrder.mono : ∀ a0 a1 a2 a3 k, LeO (pochoirlaw03_RatioOrder.f k a0 a1 a2 a3) (pochoirlaw03_RatioOrder.f (k + 1) a0 a1 a2 a3) := by
 intro a0 a1 a2 a3 k
 have ih0 := pochoirlaw03_RatioOrder.mono_l k
 unfold pochoirlaw03_RatioOrder.f
 repeat' first
   | (with_reducible exact ih0 _ _ _ _ _ _ _)
   | (with_reducible exact pochoirlaw03_awake.mono _)
   | (with_reducible exact pochoirref03_Cmp.mono _ _ _ _ _)
   | (with_reducible exact pochoirref03_May.mono _ _ _)
   | (with_reducible exact pochoirref03_Round.mono _ _ _)
   | (with_reducible exact ratio_Cmp.mono _ _ _ _ _)
   | (with_reducible exact ratio_Floor.mono _ _ _)
   | (with_reducible exact ratio_Round.mono _ _ _)
   | (with_reducible exact LeO.refl _)
   | (with_reducible exact LeO.none _)
   | (with_reducible refine LeO.ite ?_ ?_)
   | (with_reducible refine LeO.bind ?_ (fun _ => ?_))
   | exact ih0 _ _ _ _ _ _ _
   | exact pochoirlaw03_awake.mono _
   | exact pochoirref03_Cmp.mono _ _ _ _ _
   | exact pochoirref03_May.mono _ _ _
   | exact pochoirref03_Round.mono _ _ _
   | exact ratio_Cmp.mono _ _ _ _ _
   | exact ratio_Floor.mono _ _ _
   | exact ratio_Round.mono _ _ _
   | exact LeO.none _
   | refine LeO.ite ?_ ?_
   | refine LeO.bind ?_ (fun _ => ?_)
set_option maxHeartbeats 8000000 in
set_option maxRecDepth 100000 in
theorem pochoirlaw03_RatioOrder.calls (k : Nat) (a0_0 : Int) (a0_1 : Int) (a1_0 : Int) (a1_1 : Int) (r : Bool) (w : World) (hG : Glob w) (h : pochoirlaw03_RatioOrder.f k a0_0 a0_1 a1_0 a1_1 = some r) :
  Calls Tryd.prog 4 #[.agg #[.int .i64 a0_0, .int .i64 a0_1], .agg #[.int .i64 a1_0, .int .i64 a1_1]] w fun e w' => e = .returned (.bool r) ∧ Below w.heap.size w w' := by
 have hu24 := Tryd.underlying24
 have HB := Aside0.mk (Below.refl w.heap.size w)
 have H : ((pochoirlaw03_awake.f k).bind fun t458 => (if t458 = true then ((ratio_Cmp.f k a0_0 a0_1 a1_0 a1_1).bind fun bt459 => ((pochoirref03_Cmp.f k a0_0 a0_1 a1_0 a1_1).bind fun bt461 => ((ratio_Floor.f k a0_0 a0_1).bind fun bt463 => ((ratio_Round.f k a0_0 a0_1).bind fun bt465 => (if bt459.1 = bt461.1 then (pochoirlaw03_RatioOrder.j0 k bt463.1 bt463.2 bt465.1 bt465.2 (bt459.2 != bt461.2) a0_0 a0_1) else (pochoirlaw03_RatioOrder.j0 k bt463.1 bt463.2 bt465.1 bt465.2 true a0_0 a0_1)))))) else (none))) = some r := h
 clear h
 replace H := Option.bind_eq_some_iff.mp H
 obtain ⟨t458, A30, H⟩ := H
 replace H : (if t458 = true then ((ratio_Cmp.f k a0_0 a0_1 a1_0 a1_1).bind fun bt459 => ((pochoirref03_Cmp.f k a0_0 a0_1 a1_0 a1_1).bind fun bt461 => ((ratio_Floor.f k a0_0 a0_1).bind fun bt463 => ((ratio_Round.f k a0_0 a0_1).bind fun bt465 => (if bt459.1 = bt461.1 then (pochoirlaw03_RatioOrder.j0 k bt463.1 bt463.2 bt465.1 bt465.2 (bt459.2 != bt461.2) a0_0 a0_1) else (pochoirlaw03_RatioOrder.j0 k bt463.1 bt463.2 bt465.1 bt465.2 true a0_0 a0_1)))))) else (none)) = some r := H
 have A3 := Aside0.mk A30
 clear A30
 by_cases c4 : t458 = true
 ·subst c4
  have H1 : ((ratio_Cmp.f k a0_0 a0_1 a1_0 a1_1).bind fun bt459 => ((pochoirref03_Cmp.f k a0_0 a0_1 a1_0 a1_1).bind fun bt461 => ((ratio_Floor.f k a0_0 a0_1).bind fun bt463 => ((ratio_Round.f k a0_0 a0_1).bind fun bt465 => (if bt459.1 = bt461.1 then (pochoirlaw03_RatioOrder.j0 k bt463.1 bt463.2 bt465.1 bt465.2 (bt459.2 != bt461.2) a0_0 a0_1) else (pochoirlaw03_RatioOrder.j0 k bt463.1 bt463.2 bt465.1 bt465.2 true a0_0 a0_1)))))) = some r := by rw [if_pos rfl] at H; exact H
  clear H
  have H := H1
  clear H1
  replace H := Option.bind_eq_some_iff.mp H
  obtain ⟨⟨t459, t460⟩, A50, H⟩ := H
  replace H : ((pochoirref03_Cmp.f k a0_0 a0_1 a1_0 a1_1).bind fun bt461 => ((ratio_Floor.f k a0_0 a0_1).bind fun bt463 => ((ratio_Round.f k a0_0 a0_1).bind fun bt465 => (if t459 = bt461.1 then (pochoirlaw03_RatioOrder.j0 k bt463.1 bt463.2 bt465.1 bt465.2 (t460 != bt461.2) a0_0 a0_1) else (pochoirlaw03_RatioOrder.j0 k bt463.1 bt463.2 bt465.1 bt465.2 true a0_0 a0_1))))) = some r := H
  have A5 := Aside0.mk A50
  clear A50
  replace H := Option.bind_eq_some_iff.mp H
  obtain ⟨⟨t461, t462⟩, A60, H⟩ := H
  replace H : ((ratio_Floor.f k a0_0 a0_1).bind fun bt463 => ((ratio_Round.f k a0_0 a0_1).bind fun bt465 => (if t459 = t461 then (pochoirlaw03_RatioOrder.j0 k bt463.1 bt463.2 bt465.1 bt465.2 (t460 != t462) a0_0 a0_1) else (pochoirlaw03_RatioOrder.j0 k bt463.1 bt463.2 bt465.1 bt465.2 true a0_0 a0_1)))) = some r := H
  have A6 := Aside0.mk A60
  clear A60
  replace H := Option.bind_eq_some_iff.mp H
  obtain ⟨⟨t463, t464⟩, A70, H⟩ := H
  replace H : ((ratio_Round.f k a0_0 a0_1).bind fun bt465 => (if t459 = t461 then (pochoirlaw03_RatioOrder.j0 k t463 t464 bt465.1 bt465.2 (t460 != t462) a0_0 a0_1) else (pochoirlaw03_RatioOrder.j0 k t463 t464 bt465.1 bt465.2 true a0_0 a0_1))) = some r := H
  have A7 := Aside0.mk A70
  clear A70
  replace H := Option.bind_eq_some_iff.mp H
  obtain ⟨⟨t465, t466⟩, A80, H⟩ := H
  replace H : (if t459 = t461 then (pochoirlaw03_RatioOrder.j0 k t463 t464 t465 t466 (t460 != t462) a0_0 a0_1) else (pochoirlaw03_RatioOrder.j0 k t463 t464 t465 t466 true a0_0 a0_1)) = some r := H
  have A8 := Aside0.mk A80
  clear A80
  have HC9 := Aside0.mk H
  clear H
  go_enter Tryd.func4, Tryd.ntmps4
  go_upto_region 7 with (first | ((with_reducible refine gate_dst (N := 2) rfl ?_); refine box_event ?hg (N := 2) ?hd (cs := #[.int .i64 a0_0, .int .i64 a0_1]) (t := 24) ?hr ?_; (case hd => rfl); (case hg => rfl); (case hr => exact gs_); intro gb456 hg w10 hbox hb; have BK456 := Aside0.mk (hbox); have GW456 := Aside0.mk ((by rw [hg]; exact (below_size (bl HB)) : w.heap.size ≤ gb456)); have GE456 := Aside0.mk ((by rw [hg]; exact (below_size (bl HB)) : w.heap.size ≤ gb456)); replace HB := Aside0.mk (below_step (bl HB) hb); clear hb hbox hg) | ((with_reducible refine gate_dst (N := 3) rfl ?_); refine box_event ?hg (N := 3) ?hd (cs := #[.int .i64 a1_0, .int .i64 a1_1]) (t := 24) ?hr ?_; (case hd => rfl); (case hg => rfl); (case hr => exact gs_); intro gb457 hg w11 hbox hb; have BK457 := Aside0.mk (hbox); have GW457 := Aside0.mk ((by rw [hg]; exact (below_size (bl HB)) : w.heap.size ≤ gb457)); have GE457 := Aside0.mk ((by rw [hg]; exact (below_size (bl HB)) : w.heap.size ≤ gb457)); replace HB := Aside0.mk (below_step (bl HB) hb); have NB456_457 := Aside0.mk ((by rw [hg]; exact Nat.ne_of_lt (blk_lt (kb BK456)) : gb456 ≠ gb457)); have NB457_456 := Aside0.mk ((by rw [hg]; exact Nat.ne_of_gt (blk_lt (kb BK456)) : gb457 ≠ gb456)); replace BK456 := Aside0.mk (blk_below (kb BK456) hb); clear hb hbox hg) | ((with_reducible refine gate_callee (f := 6) rfl ?_); refine goesL_ (some 13) rfl rfl Tryd.func6 (by kernel_rfl) rfl #[] rfl gm_ ?_; (with_reducible refine (pochoirlaw03_awake.calls k  true _ ?side1 A3.out).mono ?_); (case side1 => exact Glob.step hG (bl HB)); rintro e w12 ⟨rfl, hb⟩; refine ⟨_, rfl, ?_⟩; replace BK456 := Aside0.mk (blk_below (kb BK456) hb); replace BK457 := Aside0.mk (blk_below (kb BK457) hb); replace HB := Aside0.mk (below_step (bl HB) hb); (try clear hb); (try clear hb2); (try clear hk); (try clear hi); have hnb13 := NB456_457.out; have hnc13 := NB457_456.out; have hcz14_0 := ck BK456 0; have hcz14_1 := ck BK456 1; have hfz14_0 := blk_frozen BK456.out 0; have hfz14_1 := blk_frozen BK456.out 1; have hcz15_0 := ck BK457 0; have hcz15_1 := ck BK457 1; have hfz15_0 := blk_frozen BK457.out 0; have hfz15_1 := blk_frozen BK457.out 1) | ((with_reducible refine gate_callee (f := 11) rfl ?_); refine goesL_ (some 18) rfl rfl Tryd.func11 (by kernel_rfl) rfl #[.agg #[.int .i64 a0_0, .int .i64 a0_1], .agg #[.int .i64 a1_0, .int .i64 a1_1]] rfl gm_ ?_; (with_reducible refine (ratio_Cmp.calls k a0_0 a0_1 a1_0 a1_1 t459 t460 _ ?side1 A5.out).mono ?_); (case side1 => exact Glob.step hG (bl HB)); rintro e w16 ⟨rfl, hb⟩; refine ⟨_, rfl, ?_⟩; replace BK456 := Aside0.mk (blk_below (kb BK456) hb); replace BK457 := Aside0.mk (blk_below (kb BK457) hb); replace HB := Aside0.mk (below_step (bl HB) hb); (try clear hb); (try clear hb2); (try clear hk); (try clear hi); have hcz17_0 := ck BK456 0; have hcz17_1 := ck BK456 1; have hfz17_0 := blk_frozen BK456.out 0; have hfz17_1 := blk_frozen BK456.out 1; have hcz18_0 := ck BK457 0; have hcz18_1 := ck BK457 1; have hfz18_0 := blk_frozen BK457.out 0; have hfz18_1 := blk_frozen BK457.out 1) | ((with_reducible refine gate_callee (f := 12) rfl ?_); refine goesL_ (some 24) rfl rfl Tryd.func12 (by kernel_rfl) rfl #[.agg #[.int .i64 a0_0, .int .i64 a0_1], .agg #[.int .i64 a1_0, .int .i64 a1_1]] rfl gm_ ?_; (with_reducible refine (pochoirref03_Cmp.calls k a0_0 a0_1 a1_0 a1_1 t461 t462 _ A6.out).mono ?_); rintro e w19 ⟨rfl, hb⟩; refine ⟨_, rfl, ?_⟩; replace BK456 := Aside0.mk (blk_below (kb BK456) hb); replace BK457 := Aside0.mk (blk_below (kb BK457) hb); replace HB := Aside0.mk (below_step (bl HB) hb); (try clear hb); (try clear hb2); (try clear hk); (try clear hi); have hcz20_0 := ck BK456 0; have hcz20_1 := ck BK456 1; have hfz20_0 := blk_frozen BK456.out 0; have hfz20_1 := blk_frozen BK456.out 1) | ((with_reducible refine gate_callee (f := 13) rfl ?_); refine goesL_ (some 29) rfl rfl Tryd.func13 (by kernel_rfl) rfl #[.agg #[.int .i64 a0_0, .int .i64 a0_1]] rfl gm_ ?_; (with_reducible refine (ratio_Floor.calls k a0_0 a0_1 t463 t464 _ ?side1 A7.out).mono ?_); (case side1 => exact Glob.step hG (bl HB)); rintro e w21 ⟨rfl, hb⟩; refine ⟨_, rfl, ?_⟩; replace BK456 := Aside0.mk (blk_below (kb BK456) hb); replace BK457 := Aside0.mk (blk_below (kb BK457) hb); replace HB := Aside0.mk (below_step (bl HB) hb); (try clear hb); (try clear hb2); (try clear hk); (try clear hi); have hcz22_0 := ck BK456 0; have hcz22_1 := ck BK456 1; have hfz22_0 := blk_frozen BK456.out 0; have hfz22_1 := blk_frozen BK456.out 1) | ((with_reducible refine gate_callee (f := 14) rfl ?_); refine goesL_ (some 34) rfl rfl Tryd.func14 (by kernel_rfl) rfl #[.agg #[.int .i64 a0_0, .int .i64 a0_1]] rfl gm_ ?_; (with_reducible refine (ratio_Round.calls k a0_0 a0_1 t465 t466 _ ?side1 A8.out).mono ?_); (case side1 => exact Glob.step hG (bl HB)); rintro e w23 ⟨rfl, hb⟩; refine ⟨_, rfl, ?_⟩; replace BK456 := Aside0.mk (blk_below (kb BK456) hb); replace BK457 := Aside0.mk (blk_below (kb BK457) hb); replace HB := Aside0.mk (below_step (bl HB) hb); (try clear hb); (try clear hb2); (try clear hk); (try clear hi)))
  (try simp only [Act.put, List.setIfInBounds_toArray, List.set_cons_zero, List.set_cons_succ])
  go_cut [44] (fun v44 wc => ∃ (kq : Nat) (x44_8 : Bool), v44 = .bool x44_8 ∧ Aside0 (pochoirlaw03_RatioOrder.j0 kq t463 t464 t465 t466 x44_8 a0_0 a0_1 = some r) ∧ Aside0 (kq ≤ k) ∧ Aside0 (wc.heap[gb456]? = some (.cells #[.int .i64 a0_0, .int .i64 a0_1] 24 (0, 0))) ∧ Aside0 (wc.heap[gb457]? = some (.cells #[.int .i64 a1_0, .int .i64 a1_1] 24 (0, 0))) ∧ Aside0 (Below w.heap.size w wc))
  case first =>
   have H := HC9.out
   clear HC9
   by_cases c24 : t459 = t461
   ·rw [if_pos c24] at H
    have c24b0 : (t459 == t461) = true := beq_iff_eq.mpr c24
    have c24b1 : (t459 != t461) = false := bne_eq_false_iff_eq.mpr c24
    clear c24
    (first | rw [c24b0] | (simp only [i64_w, i32_w]; rw [c24b0]) | skip)
    have H' := Aside0.mk H
    clear H
    go_wp2
    go_meet
    case rel => exact ⟨_, ((t460 != t462)), (by first | rfl | (simp; done) | (simp [*]; done)), H', ⟨by first | omega | exact Nat.le_refl _⟩, ⟨kb BK456⟩, ⟨kb BK457⟩, ⟨bl HB⟩⟩
   ·rw [if_neg c24] at H
    have c24b0 : (t459 == t461) = false := beq_eq_false_iff_ne.mpr c24
    have c24b1 : (t459 != t461) = true := bne_iff_ne.mpr c24
    (first | rw [c24b0] | (simp only [i64_w, i32_w]; rw [c24b0]) | skip)
    have H' := Aside0.mk H
    clear H
    go_wp2
    go_meet
    case rel => exact ⟨_, (true), (by first | rfl | (simp; done) | (simp [*]; done)), H', ⟨by first | omega | exact Nat.le_refl _⟩, ⟨kb BK456⟩, ⟨kb BK457⟩, ⟨bl HB⟩⟩
  case rest =>
   clear HC9
   try clear c1
   try clear c2
   try clear p2
   try clear c4
   try clear c6
   try clear c11
   try clear c12
   try clear c13
   try clear c14
   try clear c24
   try clear c24b0
   try clear c24b1
   try clear hcz14_0
   try clear hcz14_1
   try clear hcz15_0
   try clear hcz15_1
   try clear hcz17_0
   try clear hcz17_1
   try clear hcz18_0
   try clear hcz18_1
   try clear hcz20_0
   try clear hcz20_1
   try clear hcz22_0
   try clear hcz22_1
   try clear hfz14_0
   try clear hfz14_1
   try clear hfz15_0
   try clear hfz15_1
   try clear hfz17_0
   try clear hfz17_1
   try clear hfz18_0
   try clear hfz18_1
   try clear hfz20_0
   try clear hfz20_1
   try clear hfz22_0
   try clear hfz22_1
   obtain ⟨kq, x44_8, rfl, HA, HJ8, BK456, BK457, HB⟩ := hcut
   cases kq with
   | zero => exact absurd HA.out (by simp [pochoirlaw03_RatioOrder.j0])
   | succ kj8 =>
    have H := HA.out
    clear HA
    simp only [pochoirlaw03_RatioOrder.j0] at H
    by_cases c25 : x44_8 = true
    ·subst c25
     have H1 : (none) = some r := by rw [if_pos rfl] at H; exact H
     clear H
     have H := H1
     clear H1
     exact absurd H (by simp)
    ·replace c25 := Bool.eq_false_iff.mpr c25
     subst c25
     have H1 : ((pochoirref03_May.f kj8 a0_0 a0_1).bind fun t467 => (if t467 = true then ((pochoirref03_Floor.f a0_0 a0_1).bind fun t468 => (if t463 = t468 then (if t464 = 0 then ((pochoirref03_Round.f kj8 a0_0 a0_1).bind fun t469 => (if t465 = t469 then (some (t466 == 0)) else (none))) else (none)) else (none))) else (if t463 = 0 then (if t464 = 1 then (if t465 = 0 then (some (t466 == 1)) else (none)) else (none)) else (none)))) = some r := by rw [if_neg (show ¬ (false = true) by decide)] at H; exact H
     clear H
     have H := H1
     clear H1
     replace H := Option.bind_eq_some_iff.mp H
     obtain ⟨t467, A260, H⟩ := H
     replace H : (if t467 = true then ((pochoirref03_Floor.f a0_0 a0_1).bind fun t468 => (if t463 = t468 then (if t464 = 0 then ((pochoirref03_Round.f kj8 a0_0 a0_1).bind fun t469 => (if t465 = t469 then (some (t466 == 0)) else (none))) else (none)) else (none))) else (if t463 = 0 then (if t464 = 1 then (if t465 = 0 then (some (t466 == 1)) else (none)) else (none)) else (none))) = some r := H
     have A26 := Aside0.mk A260
     clear A260
     by_cases c27 : t467 = true
     ·subst c27
      have H1 : ((pochoirref03_Floor.f a0_0 a0_1).bind fun t468 => (if t463 = t468 then (if t464 = 0 then ((pochoirref03_Round.f kj8 a0_0 a0_1).bind fun t469 => (if t465 = t469 then (some (t466 == 0)) else (none))) else (none)) else (none))) = some r := by rw [if_pos rfl] at H; exact H
      clear H
      have H := H1
      clear H1
      replace H := Option.bind_eq_some_iff.mp H
      obtain ⟨t468, A280, H⟩ := H
      replace H : (if t463 = t468 then (if t464 = 0 then ((pochoirref03_Round.f kj8 a0_0 a0_1).bind fun t469 => (if t465 = t469 then (some (t466 == 0)) else (none))) else (none)) else (none)) = some r := H
      have A28 := Aside0.mk A280
      clear A280
      by_cases c29 : t463 = t468
      ·rw [if_pos c29] at H
       have c29b0 : (t463 == t468) = true := beq_iff_eq.mpr c29
       have c29b1 : (t463 != t468) = false := bne_eq_false_iff_eq.mpr c29
       clear c29
       by_cases c30 : t464 = 0
       ·rw [if_pos c30] at H
        have c30b0 : (t464 == 0) = true := beq_iff_eq.mpr c30
        have c30b1 : (t464 != 0) = false := bne_eq_false_iff_eq.mpr c30
        clear c30
        replace H := Option.bind_eq_some_iff.mp H
        obtain ⟨t469, A310, H⟩ := H
        replace H : (if t465 = t469 then (some (t466 == 0)) else (none)) = some r := H
        have A31 := Aside0.mk A310
        clear A310
        by_cases c32 : t465 = t469
        ·rw [if_pos c32] at H
         have c32b0 : (t465 == t469) = true := beq_iff_eq.mpr c32
         have c32b1 : (t465 != t469) = false := bne_eq_false_iff_eq.mpr c32
         clear c32
         obtain rfl := Option.some.inj H
         have hnb33 := NB456_457.out
         have hnc33 := NB457_456.out
         have hcz34_0 := ck BK456 0
         have hcz34_1 := ck BK456 1
         have hfz34_0 := blk_frozen BK456.out 0
         have hfz34_1 := blk_frozen BK456.out 1
         go_wp2_with (first | ((with_reducible refine gate_callee (f := 10) rfl ?_); refine goesL_ (some 46) rfl rfl Tryd.func10 (by kernel_rfl) rfl #[.agg #[.int .i64 a0_0, .int .i64 a0_1]] rfl gm_ ?_; (with_reducible refine (pochoirref03_May.calls kj8 a0_0 a0_1 true _ A26.out).mono ?_); rintro e w35 ⟨rfl, hb⟩; refine ⟨_, rfl, ?_⟩; replace BK456 := Aside0.mk (blk_below (kb BK456) hb); replace BK457 := Aside0.mk (blk_below (kb BK457) hb); replace HB := Aside0.mk (below_step (bl HB) hb); (try clear hb); (try clear hb2); (try clear hk); (try clear hi); have hcz36_0 := ck BK456 0; have hcz36_1 := ck BK456 1; have hfz36_0 := blk_frozen BK456.out 0; have hfz36_1 := blk_frozen BK456.out 1) | ((with_reducible refine gate_callee (f := 15) rfl ?_); refine goesL_ (some 64) rfl rfl Tryd.func15 (by kernel_rfl) rfl #[.agg #[.int .i64 a0_0, .int .i64 a0_1]] rfl gm_ ?_; (with_reducible refine (pochoirref03_Floor.calls a0_0 a0_1 t468 _ A28.out).mono ?_); rintro e w37 ⟨rfl, hb⟩; refine ⟨_, rfl, ?_⟩; replace BK456 := Aside0.mk (blk_below (kb BK456) hb); replace BK457 := Aside0.mk (blk_below (kb BK457) hb); replace HB := Aside0.mk (below_step (bl HB) hb); (try clear hb); (try clear hb2); (try clear hk); (try clear hi); have hcz38_0 := ck BK456 0; have hcz38_1 := ck BK456 1; have hfz38_0 := blk_frozen BK456.out 0; have hfz38_1 := blk_frozen BK456.out 1) | (go_at_call 16; (with_reducible refine (pochoirref03_Round.calls kj8 a0_0 a0_1 t469 _ A31.out).mono ?_); rintro e w39 ⟨rfl, hb⟩; replace BK456 := Aside0.mk (blk_below (kb BK456) hb); replace BK457 := Aside0.mk (blk_below (kb BK457) hb); replace HB := Aside0.mk (below_step (bl HB) hb); (try clear hb); (try clear hb2); (try clear hk); (try clear hi)))
         go_ret
         exact ⟨by first | rfl | (simp [errW_none, errW_some] <;> rfl) | (simp [*, errW_none, errW_some] <;> rfl), bl HB⟩
        ·rw [if_neg c32] at H
         exact absurd H (by simp)
       ·rw [if_neg c30] at H
        exact absurd H (by simp)
      ·rw [if_neg c29] at H
       exact absurd H (by simp)
     ·replace c27 := Bool.eq_false_iff.mpr c27
      subst c27
      have H1 : (if t463 = 0 then (if t464 = 1 then (if t465 = 0 then (some (t466 == 1)) else (none)) else (none)) else (none)) = some r := by rw [if_neg (show ¬ (false = true) by decide)] at H; exact H
      clear H
      have H := H1
      clear H1
      by_cases c40 : t463 = 0
      ·rw [if_pos c40] at H
       have c40b0 : (t463 == 0) = true := beq_iff_eq.mpr c40
       have c40b1 : (t463 != 0) = false := bne_eq_false_iff_eq.mpr c40
       clear c40
       by_cases c41 : t464 = 1
       ·rw [if_pos c41] at H
        have c41b0 : (t464 == 1) = true := beq_iff_eq.mpr c41
        have c41b1 : (t464 != 1) = false := bne_eq_false_iff_eq.mpr c41
        clear c41
        by_cases c42 : t465 = 0
        ·rw [if_pos c42] at H
         have c42b0 : (t465 == 0) = true := beq_iff_eq.mpr c42
         have c42b1 : (t465 != 0) = false := bne_eq_false_iff_eq.mpr c42
         clear c42
         obtain rfl := Option.some.inj H
         have hnb43 := NB456_457.out
         have hnc43 := NB457_456.out
         have hcz44_0 := ck BK456 0
         have hcz44_1 := ck BK456 1
         have hfz44_0 := blk_frozen BK456.out 0
         have hfz44_1 := blk_frozen BK456.out 1
         go_wp2_with (first | ((with_reducible refine gate_callee (f := 10) rfl ?_); refine goesL_ (some 46) rfl rfl Tryd.func10 (by kernel_rfl) rfl #[.agg #[.int .i64 a0_0, .int .i64 a0_1]] rfl gm_ ?_; (with_reducible refine (pochoirref03_May.calls kj8 a0_0 a0_1 false _ A26.out).mono ?_); rintro e w45 ⟨rfl, hb⟩; refine ⟨_, rfl, ?_⟩; replace BK456 := Aside0.mk (blk_below (kb BK456) hb); replace BK457 := Aside0.mk (blk_below (kb BK457) hb); replace HB := Aside0.mk (below_step (bl HB) hb); (try clear hb); (try clear hb2); (try clear hk); (try clear hi)))
         go_ret
         exact ⟨by first | rfl | (simp [errW_none, errW_some] <;> rfl) | (simp [*, errW_none, errW_some] <;> rfl), bl HB⟩
        ·rw [if_neg c42] at H
         exact absurd H (by simp)
       ·rw [if_neg c41] at H
        exact absurd H (by simp)
      ·rw [if_neg c40] at H
       exact absurd H (by simp)
 ·replace c4 := Bool.eq_false_iff.mpr c4
  subst c4
  have H1 : (none) = some r := by rw [if_neg (show ¬ (false = true) by decide)] at H; exact H
  clear H
  have H := H1
  clear H1
  exact absurd H (by simp)

end Go.Proofs.YtglcjhjmncolpaaDoor.Q
