-- Written for this claim by a program of the session (wip/print2). Not trusted: Lean checks it.
import Derived.Test.YtglcjhjmncolpaaDoorQx0
import Derived.Test.YtglcjhjmncolpaaDoorQx2
import Derived.Test.YtglcjhjmncolpaaDoorQx3
import Derived.Test.YtglcjhjmncolpaaDoorQx4
namespace Go.Proofs.YtglcjhjmncolpaaDoor.Q
open Go.RowKit Go.Proofs.YtglcjhjmncolpaaDoorW.PrintWords Go.Proofs.YtglcjhjmncolpaaDoorW.PrintLast Go.Proofs.YtglcjhjmncolpaaDoorW.PrintMore
attribute [local go_sem] max2_int min2_int max_two min_two max_three min_three max_four min_four   -- for this text's walks alone
set_option linter.unusedVariables false
set_option linter.unusedSimpArgs false

attribute [local go_sem high] eqA47
/-! ### ratio_common: function 31 -/
def ratio_common.l0 : Nat → Int → Int → Int → Int → Int → Option (Int × Int)
 | 0, _, _, _, _, _ => none
 | k + 1, x5, x137000, x137001, x138000, x138001 => if (!(x138000 == 0) || (!(x138001 == 0))) = true then ((ratio_twos.f x138000 x138001).bind fun t148 => ((wide_Shift.f k x138000 x138001 (wrap64 (-t148))).bind fun bt149 => ((wide_Cmp.f k x137000 x137001 bt149.1 bt149.2.1).bind fun t152 => (if t152 > 0 then ((wide_Sub.f x137000 x137001 bt149.1 bt149.2.1).bind fun bt153 => (ratio_common.l0 k x5 bt149.1 bt149.2.1 bt153.1 bt153.2.1)) else ((wide_Sub.f bt149.1 bt149.2.1 x137000 x137001).bind fun bt156 => (ratio_common.l0 k x5 x137000 x137001 bt156.1 bt156.2.1)))))) else ((wide_Shift.f k x137000 x137001 x5).bind fun bt145 => (some (bt145.1, bt145.2.1)))
def ratio_common.f (k : Nat) (a0_0 : Int) (a0_1 : Int) (a1_0 : Int) (a1_1 : Int) : Option (Int × Int) := if (a0_0 == 0 && (a0_1 == 0)) = true then (some (a1_0, a1_1)) else (if (a1_0 == 0 && (a1_1 == 0)) = true then (some (a0_0, a0_1)) else ((ratio_twos.f a0_0 a0_1).bind fun t139 => ((ratio_twos.f a1_0 a1_1).bind fun t140 => ((ratio_twos.f a0_0 a0_1).bind fun t141 => ((wide_Shift.f k a0_0 a0_1 (wrap64 (-t141))).bind fun bt142 => (ratio_common.l0 k (mn t139 t140) bt142.1 bt142.2.1 a1_0 a1_1))))))
theorem ratio_common.mono_l : ∀ k, (∀ y0 y1 y2 y3 y4, LeO (ratio_common.l0 k y0 y1 y2 y3 y4) (ratio_common.l0 (k + 1) y0 y1 y2 y3 y4))
 | 0 => fun _ _ _ _ _ r h => by simp [ratio_common.l0] at h
 | k + 1 => by
  have ih0 := ratio_common.mono_l k
  ·intro y0 y1 y2 y3 y4
   unfold ratio_common.l0
   repeat' first
   | (with_reducible exact ih0 _ _ _ _ _)
   | (with_reducible exact wide_Cmp.mono _ _ _ _ _)
   | (with_reducible exact wide_Shift.mono _ _ _ _)
   | (with_reducible exact LeO.refl _)
   | (with_reducible exact LeO.none _)
   | (with_reducible refine LeO.ite ?_ ?_)
   | (with_reducible refine LeO.bind ?_ (fun _ => ?_))
   | exact ih0 _ _ _ _ _
   | exact wide_Cmp.mono _ _ _ _ _
   | exact wide_Shift.mono _ _ _ _
   | exact LeO.none _
   | refine LeO.ite ?_ ?_
   | refine LeO.bind ?_ (fun _ => ?_)
theorem ratio_common.mono : ∀ a0 a1 a2 a3 k, LeO (ratio_common.f k a0 a1 a2 a3) (ratio_common.f (k + 1) a0 a1 a2 a3) := by
 intro a0 a1 a2 a3 k
 have ih0 := ratio_common.mono_l k
 unfold ratio_common.f
 repeat' first
   | (with_reducible exact ih0 _ _ _ _ _)
   | (with_reducible exact wide_Cmp.mono _ _ _ _ _)
   | (with_reducible exact wide_Shift.mono _ _ _ _)
   | (with_reducible exact LeO.refl _)
   | (with_reducible exact LeO.none _)
   | (with_reducible refine LeO.ite ?_ ?_)
   | (with_reducible refine LeO.bind ?_ (fun _ => ?_))
   | exact ih0 _ _ _ _ _
   | exact wide_Cmp.mono _ _ _ _ _
   | exact wide_Shift.mono _ _ _ _
   | exact LeO.none _
   | refine LeO.ite ?_ ?_
   | refine LeO.bind ?_ (fun _ => ?_)
def ratio_common.T6 : Bool × List (List Nat × List Nat) := (true, [([], []), ([], []), ([1], [1]), ([2], [2]), ([0, 3, 2], [0, 3]), ([4], [4]), ([5], [5]), ([5], [5]), ([6, 4, 0, 1, 2, 3, 4, 5, 6], [6])])
def ratio_common.B6 : List Nat := [0, 0, 2, 6, 15, 31, 63, 63, 127]
theorem ratio_common.tab6 : rtab .any (opsOf Tryd.f31 6) = ratio_common.T6 := by kernel_rfl
theorem ratio_common.bits6 : waitsOk ratio_common.T6.2 ratio_common.B6 = true := by kernel_rfl
def ratio_common.T8 : Bool × List (List Nat × List Nat) := (true, [([], []), ([], []), ([1], [1]), ([2], [2]), ([0, 3, 2], [0, 3]), ([4], [4]), ([5], [5]), ([5], [5]), ([6, 4, 0, 1, 2, 3, 4, 5, 6], [6])])
def ratio_common.B8 : List Nat := [0, 0, 2, 6, 15, 31, 63, 63, 127]
theorem ratio_common.tab8 : rtab .any (opsOf Tryd.f31 8) = ratio_common.T8 := by kernel_rfl
theorem ratio_common.bits8 : waitsOk ratio_common.T8.2 ratio_common.B8 = true := by kernel_rfl
set_option maxHeartbeats 8000000 in
set_option maxRecDepth 100000 in
theorem ratio_common.calls (k : Nat) (a0_0 : Int) (a0_1 : Int) (a1_0 : Int) (a1_1 : Int) (r1 : Int) (r2 : Int) (w : World) (hG : Glob w) (h : ratio_common.f k a0_0 a0_1 a1_0 a1_1 = some (r1, r2)) :
  Calls Tryd.prog 31 #[.agg #[.int .u64 a0_0, .int .u64 a0_1], .agg #[.int .u64 a1_0, .int .u64 a1_1]] w fun e w' => e = .returned (.agg #[.int .u64 r1, .int .u64 r2]) ∧ Below w.heap.size w w' := by
 have hu47 := Tryd.underlying47
 have HB := Aside0.mk (Below.refl w.heap.size w)
 have H : (if (a0_0 == 0 && (a0_1 == 0)) = true then (some (a1_0, a1_1)) else (if (a1_0 == 0 && (a1_1 == 0)) = true then (some (a0_0, a0_1)) else ((ratio_twos.f a0_0 a0_1).bind fun t139 => ((ratio_twos.f a1_0 a1_1).bind fun t140 => ((ratio_twos.f a0_0 a0_1).bind fun t141 => ((wide_Shift.f k a0_0 a0_1 (wrap64 (-t141))).bind fun bt142 => (ratio_common.l0 k (mn t139 t140) bt142.1 bt142.2.1 a1_0 a1_1))))))) = some (r1, r2) := h
 clear h
 by_cases c3 : (a0_0 == 0 && (a0_1 == 0)) = true
 ·rw [if_pos c3] at H
  have c3b0 : (a0_0 == 0 && (a0_1 == 0)) = true := c3
  (try (have c3b1 : decide (a0_0 = 0 && (a0_1 == 0)) = true := by simpa using c3))
  (try (have c3b2 : (a0_0 == 0 && (a0_1 == 0)) = true := by simpa using c3))
  clear c3
  simp only [Option.some.injEq, Prod.mk.injEq] at H
  obtain ⟨rfl, rfl⟩ := H
  go_enter Tryd.func31, Tryd.ntmps31
  go_wp2_with (first | ((with_reducible refine gate_dst (N := 2) rfl ?_); refine box_event ?hg (N := 2) ?hd (cs := #[.int .u64 a0_0, .int .u64 a0_1]) (t := 47) ?hr ?_; (case hd => rfl); (case hg => rfl); (case hr => exact gs_); intro gb136 hg w4 hbox hb; have BK136 := Aside0.mk (hbox); have GW136 := Aside0.mk ((by rw [hg]; exact (below_size (bl HB)) : w.heap.size ≤ gb136)); have GE136 := Aside0.mk ((by rw [hg]; exact (below_size (bl HB)) : w.heap.size ≤ gb136)); replace HB := Aside0.mk (below_step (bl HB) hb); clear hb hbox hg) | ((with_reducible refine gate_dst (N := 3) rfl ?_); refine box_event ?hg (N := 3) ?hd (cs := #[.int .u64 a1_0, .int .u64 a1_1]) (t := 47) ?hr ?_; (case hd => rfl); (case hg => rfl); (case hr => exact gs_); intro gb137 hg w5 hbox hb; have BK137 := Aside0.mk (hbox); have GW137 := Aside0.mk ((by rw [hg]; exact (below_size (bl HB)) : w.heap.size ≤ gb137)); have GE137 := Aside0.mk ((by rw [hg]; exact (below_size (bl HB)) : w.heap.size ≤ gb137)); replace HB := Aside0.mk (below_step (bl HB) hb); have NB136_137 := Aside0.mk ((by rw [hg]; exact Nat.ne_of_lt (blk_lt (kb BK136)) : gb136 ≠ gb137)); have NB137_136 := Aside0.mk ((by rw [hg]; exact Nat.ne_of_gt (blk_lt (kb BK136)) : gb137 ≠ gb136)); replace BK136 := Aside0.mk (blk_below (kb BK136) hb); clear hb hbox hg) | ((with_reducible refine gate_dst (N := 4) rfl ?_); refine box_event ?hg (N := 4) ?hd (cs := #[.int .u64 0, .int .u64 0]) (t := 47) ?hr ?_; (case hd => rfl); (case hg => rfl); (case hr => exact gs_); intro gb138 hg w6 hbox hb; have BK138 := Aside0.mk (hbox); have GW138 := Aside0.mk ((by rw [hg]; exact (below_size (bl HB)) : w.heap.size ≤ gb138)); have GE138 := Aside0.mk ((by rw [hg]; exact (below_size (bl HB)) : w.heap.size ≤ gb138)); replace HB := Aside0.mk (below_step (bl HB) hb); have NB136_138 := Aside0.mk ((by rw [hg]; exact Nat.ne_of_lt (blk_lt (kb BK136)) : gb136 ≠ gb138)); have NB138_136 := Aside0.mk ((by rw [hg]; exact Nat.ne_of_gt (blk_lt (kb BK136)) : gb138 ≠ gb136)); replace BK136 := Aside0.mk (blk_below (kb BK136) hb); have NB137_138 := Aside0.mk ((by rw [hg]; exact Nat.ne_of_lt (blk_lt (kb BK137)) : gb137 ≠ gb138)); have NB138_137 := Aside0.mk ((by rw [hg]; exact Nat.ne_of_gt (blk_lt (kb BK137)) : gb138 ≠ gb137)); replace BK137 := Aside0.mk (blk_below (kb BK137) hb); clear hb hbox hg; have hnb7 := NB136_137.out; have hnc7 := NB137_136.out; have hnb8 := NB136_138.out; have hnc8 := NB138_136.out; have hcz9_0 := ck BK136 0; have hcz9_1 := ck BK136 1; have hfz9_0 := blk_frozen BK136.out 0; have hfz9_1 := blk_frozen BK136.out 1; have hnb10 := NB137_138.out; have hnc10 := NB138_137.out; have hcz11_0 := ck BK137 0; have hcz11_1 := ck BK137 1; have hfz11_0 := blk_frozen BK137.out 0; have hfz11_1 := blk_frozen BK137.out 1; have hcz12_0 := ck BK138 0; have hcz12_1 := ck BK138 1; have hfz12_0 := blk_frozen BK138.out 0; have hfz12_1 := blk_frozen BK138.out 1))
  refine bodyPost_ret (results_cell_row rfl _ _ gb138 47 #[.int .u64 a1_0, .int .u64 a1_1] (0, 0) _ rfl (by (with_reducible repeat (first | refine blk_drewN ?_ _ | refine blk_drew ?_ | refine blk_alloc ?_ _)); refine blk_put (cs := #[.int .u64 a1_0, .int .u64 0]) ?_ 1 _ rfl; (with_reducible repeat (first | refine blk_drewN ?_ _ | refine blk_drew ?_ | refine blk_alloc ?_ _)); refine blk_put (cs := #[.int .u64 0, .int .u64 0]) ?_ 0 _ rfl; (with_reducible repeat (first | refine blk_drewN ?_ _ | refine blk_drew ?_ | refine blk_alloc ?_ _)); exact BK138.out) Tryd.underlying47 rfl (by kernel_rfl)) rfl ?_
  exact ⟨by first | rfl | (simp [errW_none, errW_some] <;> rfl) | (simp [*, errW_none, errW_some] <;> rfl), bl HB⟩
 ·rw [if_neg c3] at H
  have c3b0 : (a0_0 == 0 && (a0_1 == 0)) = false := by simpa using c3
  (try (have c3b1 : decide (a0_0 = 0 && (a0_1 == 0)) = false := by simpa using c3))
  (try (have c3b2 : (a0_0 == 0 && (a0_1 == 0)) = false := by simpa using c3))
  (try (have c3b3 : ¬ (a0_0 = 0 && (a0_1 == 0)) := by simpa using c3))
  clear c3
  by_cases c13 : (a1_0 == 0 && (a1_1 == 0)) = true
  ·rw [if_pos c13] at H
   have c13b0 : (a1_0 == 0 && (a1_1 == 0)) = true := c13
   (try (have c13b1 : decide (a1_0 = 0 && (a1_1 == 0)) = true := by simpa using c13))
   (try (have c13b2 : (a1_0 == 0 && (a1_1 == 0)) = true := by simpa using c13))
   clear c13
   simp only [Option.some.injEq, Prod.mk.injEq] at H
   obtain ⟨rfl, rfl⟩ := H
   go_enter Tryd.func31, Tryd.ntmps31
   go_wp2_with (first | ((with_reducible refine gate_dst (N := 2) rfl ?_); refine box_event ?hg (N := 2) ?hd (cs := #[.int .u64 a0_0, .int .u64 a0_1]) (t := 47) ?hr ?_; (case hd => rfl); (case hg => rfl); (case hr => exact gs_); intro gb136 hg w14 hbox hb; have BK136 := Aside0.mk (hbox); have GW136 := Aside0.mk ((by rw [hg]; exact (below_size (bl HB)) : w.heap.size ≤ gb136)); have GE136 := Aside0.mk ((by rw [hg]; exact (below_size (bl HB)) : w.heap.size ≤ gb136)); replace HB := Aside0.mk (below_step (bl HB) hb); clear hb hbox hg) | ((with_reducible refine gate_dst (N := 3) rfl ?_); refine box_event ?hg (N := 3) ?hd (cs := #[.int .u64 a1_0, .int .u64 a1_1]) (t := 47) ?hr ?_; (case hd => rfl); (case hg => rfl); (case hr => exact gs_); intro gb137 hg w15 hbox hb; have BK137 := Aside0.mk (hbox); have GW137 := Aside0.mk ((by rw [hg]; exact (below_size (bl HB)) : w.heap.size ≤ gb137)); have GE137 := Aside0.mk ((by rw [hg]; exact (below_size (bl HB)) : w.heap.size ≤ gb137)); replace HB := Aside0.mk (below_step (bl HB) hb); have NB136_137 := Aside0.mk ((by rw [hg]; exact Nat.ne_of_lt (blk_lt (kb BK136)) : gb136 ≠ gb137)); have NB137_136 := Aside0.mk ((by rw [hg]; exact Nat.ne_of_gt (blk_lt (kb BK136)) : gb137 ≠ gb136)); replace BK136 := Aside0.mk (blk_below (kb BK136) hb); clear hb hbox hg) | ((with_reducible refine gate_dst (N := 4) rfl ?_); refine box_event ?hg (N := 4) ?hd (cs := #[.int .u64 0, .int .u64 0]) (t := 47) ?hr ?_; (case hd => rfl); (case hg => rfl); (case hr => exact gs_); intro gb138 hg w16 hbox hb; have BK138 := Aside0.mk (hbox); have GW138 := Aside0.mk ((by rw [hg]; exact (below_size (bl HB)) : w.heap.size ≤ gb138)); have GE138 := Aside0.mk ((by rw [hg]; exact (below_size (bl HB)) : w.heap.size ≤ gb138)); replace HB := Aside0.mk (below_step (bl HB) hb); have NB136_138 := Aside0.mk ((by rw [hg]; exact Nat.ne_of_lt (blk_lt (kb BK136)) : gb136 ≠ gb138)); have NB138_136 := Aside0.mk ((by rw [hg]; exact Nat.ne_of_gt (blk_lt (kb BK136)) : gb138 ≠ gb136)); replace BK136 := Aside0.mk (blk_below (kb BK136) hb); have NB137_138 := Aside0.mk ((by rw [hg]; exact Nat.ne_of_lt (blk_lt (kb BK137)) : gb137 ≠ gb138)); have NB138_137 := Aside0.mk ((by rw [hg]; exact Nat.ne_of_gt (blk_lt (kb BK137)) : gb138 ≠ gb137)); replace BK137 := Aside0.mk (blk_below (kb BK137) hb); clear hb hbox hg; have hnb17 := NB136_137.out; have hnc17 := NB137_136.out; have hnb18 := NB136_138.out; have hnc18 := NB138_136.out; have hcz19_0 := ck BK136 0; have hcz19_1 := ck BK136 1; have hfz19_0 := blk_frozen BK136.out 0; have hfz19_1 := blk_frozen BK136.out 1; have hnb20 := NB137_138.out; have hnc20 := NB138_137.out; have hcz21_0 := ck BK137 0; have hcz21_1 := ck BK137 1; have hfz21_0 := blk_frozen BK137.out 0; have hfz21_1 := blk_frozen BK137.out 1; have hcz22_0 := ck BK138 0; have hcz22_1 := ck BK138 1; have hfz22_0 := blk_frozen BK138.out 0; have hfz22_1 := blk_frozen BK138.out 1))
   refine bodyPost_ret (results_cell_row rfl _ _ gb138 47 #[.int .u64 a0_0, .int .u64 a0_1] (0, 0) _ rfl (by (with_reducible repeat (first | refine blk_drewN ?_ _ | refine blk_drew ?_ | refine blk_alloc ?_ _)); refine blk_put (cs := #[.int .u64 a0_0, .int .u64 0]) ?_ 1 _ rfl; (with_reducible repeat (first | refine blk_drewN ?_ _ | refine blk_drew ?_ | refine blk_alloc ?_ _)); refine blk_put (cs := #[.int .u64 0, .int .u64 0]) ?_ 0 _ rfl; (with_reducible repeat (first | refine blk_drewN ?_ _ | refine blk_drew ?_ | refine blk_alloc ?_ _)); exact BK138.out) Tryd.underlying47 rfl (by kernel_rfl)) rfl ?_
   exact ⟨by first | rfl | (simp [errW_none, errW_some] <;> rfl) | (simp [*, errW_none, errW_some] <;> rfl), bl HB⟩
  ·rw [if_neg c13] at H
   have c13b0 : (a1_0 == 0 && (a1_1 == 0)) = false := by simpa using c13
   (try (have c13b1 : decide (a1_0 = 0 && (a1_1 == 0)) = false := by simpa using c13))
   (try (have c13b2 : (a1_0 == 0 && (a1_1 == 0)) = false := by simpa using c13))
   (try (have c13b3 : ¬ (a1_0 = 0 && (a1_1 == 0)) := by simpa using c13))
   clear c13
   replace H := Option.bind_eq_some_iff.mp H
   obtain ⟨t139, A230, H⟩ := H
   replace H : ((ratio_twos.f a1_0 a1_1).bind fun t140 => ((ratio_twos.f a0_0 a0_1).bind fun t141 => ((wide_Shift.f k a0_0 a0_1 (wrap64 (-t141))).bind fun bt142 => (ratio_common.l0 k (mn t139 t140) bt142.1 bt142.2.1 a1_0 a1_1)))) = some (r1, r2) := H
   have A23 := Aside0.mk A230
   clear A230
   replace H := Option.bind_eq_some_iff.mp H
   obtain ⟨t140, A240, H⟩ := H
   replace H : ((ratio_twos.f a0_0 a0_1).bind fun t141 => ((wide_Shift.f k a0_0 a0_1 (wrap64 (-t141))).bind fun bt142 => (ratio_common.l0 k (mn t139 t140) bt142.1 bt142.2.1 a1_0 a1_1))) = some (r1, r2) := H
   have A24 := Aside0.mk A240
   clear A240
   obtain ⟨ji25, hji25⟩ : ∃ j_ : Int, (mn t139 t140) = j_ := ⟨_, rfl⟩
   replace H : ((ratio_twos.f a0_0 a0_1).bind fun t141 => ((wide_Shift.f k a0_0 a0_1 (wrap64 (-t141))).bind fun bt142 => (ratio_common.l0 k ji25 bt142.1 bt142.2.1 a1_0 a1_1))) = some (r1, r2) := by first | (rw [hji25] at H; exact H) | (simp only [hji25] at H ⊢; exact H)
   (try rw [hji25] at A23)
   (try rw [hji25] at A24)
   have hji25_ : (if t140 < t139 then t140 else t139) = ji25 := hji25
   replace H := Option.bind_eq_some_iff.mp H
   obtain ⟨t141, A260, H⟩ := H
   replace H : ((wide_Shift.f k a0_0 a0_1 (wrap64 (-t141))).bind fun bt142 => (ratio_common.l0 k ji25 bt142.1 bt142.2.1 a1_0 a1_1)) = some (r1, r2) := H
   have A26 := Aside0.mk A260
   clear A260
   replace H := Option.bind_eq_some_iff.mp H
   obtain ⟨⟨t142, t143, t144⟩, A270, H⟩ := H
   replace H : (ratio_common.l0 k ji25 t142 t143 a1_0 a1_1) = some (r1, r2) := H
   have A27 := Aside0.mk A270
   clear A270
   have H' := Aside0.mk H
   clear H
   go_enter Tryd.func31, Tryd.ntmps31
   try go_wp2_with (first | ((with_reducible refine gate_dst (N := 2) rfl ?_); refine box_event ?hg (N := 2) ?hd (cs := #[.int .u64 a0_0, .int .u64 a0_1]) (t := 47) ?hr ?_; (case hd => rfl); (case hg => rfl); (case hr => exact gs_); intro gb136 hg w28 hbox hb; have BK136 := Aside0.mk (hbox); have GW136 := Aside0.mk ((by rw [hg]; exact (below_size (bl HB)) : w.heap.size ≤ gb136)); have GE136 := Aside0.mk ((by rw [hg]; exact (below_size (bl HB)) : w.heap.size ≤ gb136)); replace HB := Aside0.mk (below_step (bl HB) hb); clear hb hbox hg) | ((with_reducible refine gate_dst (N := 3) rfl ?_); refine box_event ?hg (N := 3) ?hd (cs := #[.int .u64 a1_0, .int .u64 a1_1]) (t := 47) ?hr ?_; (case hd => rfl); (case hg => rfl); (case hr => exact gs_); intro gb137 hg w29 hbox hb; have BK137 := Aside0.mk (hbox); have GW137 := Aside0.mk ((by rw [hg]; exact (below_size (bl HB)) : w.heap.size ≤ gb137)); have GE137 := Aside0.mk ((by rw [hg]; exact (below_size (bl HB)) : w.heap.size ≤ gb137)); replace HB := Aside0.mk (below_step (bl HB) hb); have NB136_137 := Aside0.mk ((by rw [hg]; exact Nat.ne_of_lt (blk_lt (kb BK136)) : gb136 ≠ gb137)); have NB137_136 := Aside0.mk ((by rw [hg]; exact Nat.ne_of_gt (blk_lt (kb BK136)) : gb137 ≠ gb136)); replace BK136 := Aside0.mk (blk_below (kb BK136) hb); clear hb hbox hg) | ((with_reducible refine gate_dst (N := 4) rfl ?_); refine box_event ?hg (N := 4) ?hd (cs := #[.int .u64 0, .int .u64 0]) (t := 47) ?hr ?_; (case hd => rfl); (case hg => rfl); (case hr => exact gs_); intro gb138 hg w30 hbox hb; have BK138 := Aside0.mk (hbox); have GW138 := Aside0.mk ((by rw [hg]; exact (below_size (bl HB)) : w.heap.size ≤ gb138)); have GE138 := Aside0.mk ((by rw [hg]; exact (below_size (bl HB)) : w.heap.size ≤ gb138)); replace HB := Aside0.mk (below_step (bl HB) hb); have NB136_138 := Aside0.mk ((by rw [hg]; exact Nat.ne_of_lt (blk_lt (kb BK136)) : gb136 ≠ gb138)); have NB138_136 := Aside0.mk ((by rw [hg]; exact Nat.ne_of_gt (blk_lt (kb BK136)) : gb138 ≠ gb136)); replace BK136 := Aside0.mk (blk_below (kb BK136) hb); have NB137_138 := Aside0.mk ((by rw [hg]; exact Nat.ne_of_lt (blk_lt (kb BK137)) : gb137 ≠ gb138)); have NB138_137 := Aside0.mk ((by rw [hg]; exact Nat.ne_of_gt (blk_lt (kb BK137)) : gb138 ≠ gb137)); replace BK137 := Aside0.mk (blk_below (kb BK137) hb); clear hb hbox hg; have hnb31 := NB136_137.out; have hnc31 := NB137_136.out; have hnb32 := NB136_138.out; have hnc32 := NB138_136.out; have hcz33_0 := ck BK136 0; have hcz33_1 := ck BK136 1; have hfz33_0 := blk_frozen BK136.out 0; have hfz33_1 := blk_frozen BK136.out 1; have hnb34 := NB137_138.out; have hnc34 := NB138_137.out; have hcz35_0 := ck BK137 0; have hcz35_1 := ck BK137 1; have hfz35_0 := blk_frozen BK137.out 0; have hfz35_1 := blk_frozen BK137.out 1))
   replace BK136 := Aside0.mk (blk_drew BK136.out)
   replace BK137 := Aside0.mk (blk_drew BK137.out)
   replace BK138 := Aside0.mk (blk_drew BK138.out)
   replace HB := Aside0.mk (below_drew1 HB.out)
   refine start_ (n := 6) (S := fun w' => w'.cell? ⟨gb136, 0, none⟩ = some (.int .u64 a0_0) ∧ w'.cell? ⟨gb136, 1, none⟩ = some (.int .u64 a0_1) ∧ w'.cell? ⟨gb137, 0, none⟩ = some (.int .u64 a1_0) ∧ w'.cell? ⟨gb137, 1, none⟩ = some (.int .u64 a1_1)) (ds := []) #[false, false, false, false, false, false] (by kernel_rfl) rfl rfl ⟨ck BK136 0, ck BK136 1, ck BK137 0, ck BK137 1⟩ (fun hHeld => ?_)
   generalize w30.drew = w36 at BK136 BK137 BK138 HB hHeld ⊢
   refine take_ (i := 0) (N := some 14) (v := ?_) (a' := ?_) #[true, false, false, false, false, false] rfl rfl (by kernel_rfl) (fun _ _ _ h => h) (Or.inl ⟨by rfl, ?_⟩) hHeld ?_ ?_
   rotate_left
   ·rintro w' ⟨s0, s1, s2, s3⟩
    go_simp
    with_reducible rfl
   rotate_left
   ·simp only [Act.put, List.setIfInBounds_toArray, List.set_cons_zero, List.set_cons_succ, i64_w, i32_w]
    rfl
   refine take_ (i := 2) (N := some 16) (v := ?_) (a' := ?_) #[true, false, true, false, false, false] rfl rfl (by kernel_rfl) (fun _ _ _ h => h) (Or.inl ⟨by rfl, ?_⟩) hHeld ?_ ?_
   rotate_left
   ·rintro w' ⟨s0, s1, s2, s3⟩
    go_simp
    with_reducible rfl
   rotate_left
   ·simp only [Act.put, List.setIfInBounds_toArray, List.set_cons_zero, List.set_cons_succ, i64_w, i32_w]
    rfl
   refine one_ (i := 1) (N := some 15) #[true, true, true, false, false, false] rfl rfl (by kernel_rfl) (by decide) (fun K hK => ?_)
   refine goes_ Tryd.func47 (by kernel_rfl) rfl #[.agg #[.int .u64 a0_0, .int .u64 a0_1]] (by rfl) rfl rfl gm_ ?_
   with_reducible refine (ratio_twos.calls a0_0 a0_1 t139 _ ?side1 A23.out).mono ?_
   (case side1 => exact Glob.step hG (bl HB))
   rintro e w37 ⟨rfl, hb⟩
   refine ⟨_, rfl, ?_⟩
   replace BK136 := Aside0.mk (blk_below (kb BK136) hb)
   replace BK137 := Aside0.mk (blk_below (kb BK137) hb)
   replace BK138 := Aside0.mk (blk_below (kb BK138) hb)
   replace HB := Aside0.mk (below_step (bl HB) hb)
   (try clear hb)
   (try clear hb2)
   (try clear hk)
   (try clear hi)
   refine hK.out _ _ ⟨ck BK136 0, ck BK136 1, ck BK137 0, ck BK137 1⟩ (fun hHeld => ?_)
   clear hK K
   refine norm_ (a' := ?_) ?_ ?_
   rotate_left
   ·show Act.put _ (some 15) _ = _
    simp only [Act.put, List.setIfInBounds_toArray, List.set_cons_zero, List.set_cons_succ, i64_w, i32_w]
    rfl
   refine one_ (i := 3) (N := some 17) #[true, true, true, true, false, false] rfl rfl (by kernel_rfl) (by decide) (fun K hK => ?_)
   refine goes_ Tryd.func47 (by kernel_rfl) rfl #[.agg #[.int .u64 a1_0, .int .u64 a1_1]] (by rfl) rfl rfl gm_ ?_
   with_reducible refine (ratio_twos.calls a1_0 a1_1 t140 _ ?side1 A24.out).mono ?_
   (case side1 => exact Glob.step hG (bl HB))
   rintro e w38 ⟨rfl, hb⟩
   refine ⟨_, rfl, ?_⟩
   replace BK136 := Aside0.mk (blk_below (kb BK136) hb)
   replace BK137 := Aside0.mk (blk_below (kb BK137) hb)
   replace BK138 := Aside0.mk (blk_below (kb BK138) hb)
   replace HB := Aside0.mk (below_step (bl HB) hb)
   (try clear hb)
   (try clear hb2)
   (try clear hk)
   (try clear hi)
   refine hK.out _ _ ⟨ck BK136 0, ck BK136 1, ck BK137 0, ck BK137 1⟩ (fun hHeld => ?_)
   clear hK K
   refine norm_ (a' := ?_) ?_ ?_
   rotate_left
   ·show Act.put _ (some 17) _ = _
    simp only [Act.put, List.setIfInBounds_toArray, List.set_cons_zero, List.set_cons_succ, i64_w, i32_w]
    rfl
   refine pure_ (i := 4) (N := some 18) (v := ?_) (a' := ?_) #[true, true, true, true, true, false] rfl rfl (by kernel_rfl) (fun _ _ _ h => h) (Or.inl ⟨by rfl, ?_⟩) ?_ ?_
   rotate_left
   ·intro w'
    go_simp
    with_reducible rfl
   rotate_left
   ·simp only [Act.put, List.setIfInBounds_toArray, List.set_cons_zero, List.set_cons_succ, i64_w, i32_w]
    rfl
   refine pure_ (i := 5) (N := some 5) (v := ?_) (a' := ?_) #[true, true, true, true, true, true] rfl rfl (by kernel_rfl) (fun _ _ _ h => h) (Or.inl ⟨by rfl, ?_⟩) ?_ ?_
   rotate_left
   ·intro w'
    go_simp
    with_reducible rfl
   rotate_left
   ·simp only [Act.put, List.setIfInBounds_toArray, List.set_cons_zero, List.set_cons_succ, i64_w, i32_w]
    rfl
   refine done_ (by kernel_rfl) ?_
   try go_wp2
   replace BK136 := Aside0.mk (blk_drew BK136.out)
   replace BK137 := Aside0.mk (blk_drew BK137.out)
   replace BK138 := Aside0.mk (blk_drew BK138.out)
   replace HB := Aside0.mk (below_drew1 HB.out)
   refine start_ (n := 9) (S := fun w' => w'.cell? ⟨gb136, 0, none⟩ = some (.int .u64 a0_0) ∧ w'.cell? ⟨gb136, 1, none⟩ = some (.int .u64 a0_1)) (ds := [8]) #[false, false, false, false, false, false, false, false, false] (by kernel_rfl) rfl rfl ⟨ck BK136 0, ck BK136 1⟩ (fun hHeld => ?_); refine with_tabW ratio_common.tab6 ratio_common.bits6 (fun HT_ HW_ => ?_)
   generalize w38.drew = w39 at BK136 BK137 BK138 HB hHeld ⊢
   refine take_ (i := 0) (N := some 20) (v := ?_) (a' := ?_) #[true, false, false, false, false, false, false, false, false] rfl rfl (take_ofW HT_.out HW_.out (by kernel_rfl)) (fun _ _ _ h => h) (Or.inl ⟨by rfl, ?_⟩) hHeld ?_ ?_
   rotate_left
   ·rintro w' ⟨s0, s1⟩
    go_simp
    with_reducible rfl
   rotate_left
   ·simp only [Act.put, List.setIfInBounds_toArray, List.set_cons_zero, List.set_cons_succ, i64_w, i32_w]
    rfl
   refine take_ (i := 1) (N := some 21) (v := ?_) (a' := ?_) #[true, true, false, false, false, false, false, false, false] rfl rfl (take_ofW HT_.out HW_.out (by kernel_rfl)) (fun _ _ _ h => h) (Or.inl ⟨by rfl, ?_⟩) hHeld ?_ ?_
   rotate_left
   ·rintro w' ⟨s0, s1⟩
    go_simp
    with_reducible rfl
   rotate_left
   ·simp only [Act.put, List.setIfInBounds_toArray, List.set_cons_zero, List.set_cons_succ, i64_w, i32_w]
    rfl
   refine one_ (i := 2) (N := some 22) #[true, true, true, false, false, false, false, false, false] rfl rfl (one_of HT_.out (by kernel_rfl)) (by decide) (fun K hK => ?_)
   refine goes_ Tryd.func47 (by kernel_rfl) rfl #[.agg #[.int .u64 a0_0, .int .u64 a0_1]] (by rfl) rfl rfl gm_ ?_
   with_reducible refine (ratio_twos.calls a0_0 a0_1 t141 _ ?side1 A26.out).mono ?_
   (case side1 => exact Glob.step hG (bl HB))
   rintro e w40 ⟨rfl, hb⟩
   refine ⟨_, rfl, ?_⟩
   replace BK136 := Aside0.mk (blk_below (kb BK136) hb)
   replace BK137 := Aside0.mk (blk_below (kb BK137) hb)
   replace BK138 := Aside0.mk (blk_below (kb BK138) hb)
   replace HB := Aside0.mk (below_step (bl HB) hb)
   (try clear hb)
   (try clear hb2)
   (try clear hk)
   (try clear hi)
   refine hK.out _ _ ⟨ck BK136 0, ck BK136 1⟩ (fun hHeld => ?_)
   clear hK K
   refine norm_ (a' := ?_) ?_ ?_
   rotate_left
   ·show Act.put _ (some 22) _ = _
    simp only [Act.put, List.setIfInBounds_toArray, List.set_cons_zero, List.set_cons_succ, i64_w, i32_w]
    rfl
   refine pure_ (i := 3) (N := some 23) (v := ?_) (a' := ?_) #[true, true, true, true, false, false, false, false, false] rfl rfl (any_of HT_.out (by kernel_rfl)) (fun _ _ _ h => h) (Or.inl ⟨by rfl, ?_⟩) ?_ ?_
   rotate_left
   ·intro w'
    go_simp
    with_reducible rfl
   rotate_left
   ·simp only [Act.put, List.setIfInBounds_toArray, List.set_cons_zero, List.set_cons_succ, i64_w, i32_w]
    rfl
   refine one_ (i := 4) (N := some 24) #[true, true, true, true, true, false, false, false, false] rfl rfl (one_of HT_.out (by kernel_rfl)) (by decide) (fun K hK => ?_)
   refine goes_ Tryd.func48 (by kernel_rfl) rfl #[.agg #[.int .u64 a0_0, .int .u64 a0_1], .int .i64 (wrap64 (-t141))] (by rfl) rfl rfl gm_ ?_
   with_reducible refine (wide_Shift.calls k a0_0 a0_1 (wrap64 (-t141)) t142 t143 t144 _ A27.out).mono ?_
   rintro e w41 ⟨rfl, hb⟩
   refine ⟨_, rfl, ?_⟩
   replace BK136 := Aside0.mk (blk_below (kb BK136) hb)
   replace BK137 := Aside0.mk (blk_below (kb BK137) hb)
   replace BK138 := Aside0.mk (blk_below (kb BK138) hb)
   replace HB := Aside0.mk (below_step (bl HB) hb)
   (try clear hb)
   (try clear hb2)
   (try clear hk)
   (try clear hi)
   refine hK.out _ _ ⟨ck BK136 0, ck BK136 1⟩ (fun hHeld => ?_)
   clear hK K
   refine norm_ (a' := ?_) ?_ ?_
   rotate_left
   ·show Act.put _ (some 24) _ = _
    simp only [Act.put, List.setIfInBounds_toArray, List.set_cons_zero, List.set_cons_succ, i64_w, i32_w]
    rfl
   refine pure_ (i := 5) (N := some 19) (v := ?_) (a' := ?_) #[true, true, true, true, true, true, false, false, false] rfl rfl (any_of HT_.out (by kernel_rfl)) (fun _ _ _ h => h) (Or.inl ⟨by rfl, ?_⟩) ?_ ?_
   rotate_left
   ·intro w'
    go_simp
    with_reducible rfl
   rotate_left
   ·simp only [Act.put, List.setIfInBounds_toArray, List.set_cons_zero, List.set_cons_succ, i64_w, i32_w]
    rfl
   refine pure_ (i := 6) (N := some 25) (v := ?_) (a' := ?_) #[true, true, true, true, true, true, true, false, false] rfl rfl (any_of HT_.out (by kernel_rfl)) (fun _ _ _ h => h) (Or.inl ⟨by rfl, ?_⟩) ?_ ?_
   rotate_left
   ·intro w'
    go_simp
    with_reducible rfl
   rotate_left
   ·simp only [Act.put, List.setIfInBounds_toArray, List.set_cons_zero, List.set_cons_succ, i64_w, i32_w]
    rfl
   refine pure_ (i := 7) (N := some 26) (v := ?_) (a' := ?_) #[true, true, true, true, true, true, true, true, false] rfl rfl (any_of HT_.out (by kernel_rfl)) (fun _ _ _ h => h) (Or.inl ⟨by rfl, ?_⟩) ?_ ?_
   rotate_left
   ·intro w'
    go_simp
    with_reducible rfl
   rotate_left
   ·simp only [Act.put, List.setIfInBounds_toArray, List.set_cons_zero, List.set_cons_succ, i64_w, i32_w]
    rfl
   refine last_ (i := 8) (N := none) #[true, true, true, true, true, true, true, true, true] rfl rfl (one_of HT_.out (by kernel_rfl)) (by decide) (fun K hK => ?_)
   have hs42 : w41.cell? ⟨gb136, 0, none⟩ = some (.int .u64 a0_0) := ck BK136 0
   have hfs42 := blk_frozen BK136.out 0
   have hns42_1 := NB137_136.out
   have hns42_2 := NB138_136.out
   have hms42_1 := NB136_137.out
   have hms42_2 := NB136_138.out
   have hs43 : w41.cell? ⟨gb136, 1, none⟩ = some (.int .u64 a0_1) := ck BK136 1
   have hfs43 := blk_frozen BK136.out 1
   have hns43_1 := NB137_136.out
   have hns43_2 := NB138_136.out
   have hms43_1 := NB136_137.out
   have hms43_2 := NB136_138.out
   refine skip_ (w1 := ?_) (by rfl) rfl ?_ ?_
   rotate_left
   ·go_simp
    rfl
   refine hK.out _ _ ?_
   clear hK K
   refine done_ (done_of HT_.out (by kernel_rfl)) ?_
   try go_wp2
   go_loopg [] k (fun kq w' => ∃ (x137000_1 : Int) (x137001_1 : Int) (x138000_1 : Int) (x138001_1 : Int), Aside0 (ratio_common.l0 kq ji25 x137000_1 x137001_1 x138000_1 x138001_1 = some (r1, r2)) ∧ Aside0 (kq ≤ k) ∧ Aside0 (w'.heap[gb136]? = some (.cells #[.int .u64 x137000_1, .int .u64 x137001_1] 47 (0, 0))) ∧ Aside0 (w'.heap[gb137]? = some (.cells #[.int .u64 x138000_1, .int .u64 x138001_1] 47 (0, 0))) ∧ Aside0 (w'.heap[gb138]? = some (.cells #[.int .u64 0, .int .u64 0] 47 (0, 0))) ∧ Aside0 (Below w.heap.size w w'))
   case atStart => exact ⟨(t142), (t143), (a1_0), (a1_1), H', ⟨Nat.le_refl _⟩, ⟨by (with_reducible repeat (first | refine blk_drewN ?_ _ | refine blk_drew ?_ | refine blk_alloc ?_ _)); refine blk_put (cs := #[.int .u64 t142, .int .u64 a0_1]) ?_ 1 _ rfl; (with_reducible repeat (first | refine blk_drewN ?_ _ | refine blk_drew ?_ | refine blk_alloc ?_ _)); refine blk_put (cs := #[.int .u64 a0_0, .int .u64 a0_1]) ?_ 0 _ rfl; (with_reducible repeat (first | refine blk_drewN ?_ _ | refine blk_drew ?_ | refine blk_alloc ?_ _)); exact BK136.out⟩, ⟨by (with_reducible repeat (first | refine blk_drewN ?_ _ | refine blk_drew ?_ | refine blk_alloc ?_ _)); refine blk_far ?_ NB137_136.out _; (with_reducible repeat (first | refine blk_drewN ?_ _ | refine blk_drew ?_ | refine blk_alloc ?_ _)); refine blk_far ?_ NB137_136.out _; (with_reducible repeat (first | refine blk_drewN ?_ _ | refine blk_drew ?_ | refine blk_alloc ?_ _)); exact BK137.out⟩, ⟨by (with_reducible repeat (first | refine blk_drewN ?_ _ | refine blk_drew ?_ | refine blk_alloc ?_ _)); refine blk_far ?_ NB138_136.out _; (with_reducible repeat (first | refine blk_drewN ?_ _ | refine blk_drew ?_ | refine blk_alloc ?_ _)); refine blk_far ?_ NB138_136.out _; (with_reducible repeat (first | refine blk_drewN ?_ _ | refine blk_drew ?_ | refine blk_alloc ?_ _)); exact BK138.out⟩, ⟨bl HB⟩⟩
   case round =>
    clear H'
    try clear c1
    try clear c2
    try clear p2
    try clear c3
    try clear c3b0
    try clear c3b1
    try clear c3b2
    try clear c4
    try clear p6
    try clear c7
    try clear c8
    try clear c10
    try clear c13
    try clear c13b0
    try clear c13b1
    try clear c13b2
    try clear c17
    try clear c18
    try clear c20
    try clear c31
    try clear c32
    try clear c34
    try clear hcz11_0
    try clear hcz11_1
    try clear hcz12_0
    try clear hcz12_1
    try clear hcz19_0
    try clear hcz19_1
    try clear hcz21_0
    try clear hcz21_1
    try clear hcz22_0
    try clear hcz22_1
    try clear hcz33_0
    try clear hcz33_1
    try clear hcz35_0
    try clear hcz35_1
    try clear hcz9_0
    try clear hcz9_1
    try clear hfz11_0
    try clear hfz11_1
    try clear hfz12_0
    try clear hfz12_1
    try clear hfz19_0
    try clear hfz19_1
    try clear hfz21_0
    try clear hfz21_1
    try clear hfz22_0
    try clear hfz22_1
    try clear hfz33_0
    try clear hfz33_1
    try clear hfz35_0
    try clear hfz35_1
    try clear hfz9_0
    try clear hfz9_1
    obtain ⟨x137000_1, x137001_1, x138000_1, x138001_1, HA, HK1, BK136, BK137, BK138, HB⟩ := hrel
    cases gk with
    | zero => exact absurd HA.out (by simp [ratio_common.l0])
    | succ k1 =>
     have H := HA.out
     clear HA
     simp only [ratio_common.l0] at H
     by_cases c44 : (!(x138000_1 == 0) || (!(x138001_1 == 0))) = true
     ·rw [if_pos c44] at H
      have c44b0 : (!(x138000_1 == 0) || (!(x138001_1 == 0))) = true := c44
      clear c44
      replace H := Option.bind_eq_some_iff.mp H
      obtain ⟨t148, A450, H⟩ := H
      replace H : ((wide_Shift.f k1 x138000_1 x138001_1 (wrap64 (-t148))).bind fun bt149 => ((wide_Cmp.f k1 x137000_1 x137001_1 bt149.1 bt149.2.1).bind fun t152 => (if t152 > 0 then ((wide_Sub.f x137000_1 x137001_1 bt149.1 bt149.2.1).bind fun bt153 => (ratio_common.l0 k1 ji25 bt149.1 bt149.2.1 bt153.1 bt153.2.1)) else ((wide_Sub.f bt149.1 bt149.2.1 x137000_1 x137001_1).bind fun bt156 => (ratio_common.l0 k1 ji25 x137000_1 x137001_1 bt156.1 bt156.2.1))))) = some (r1, r2) := H
      have A45 := Aside0.mk A450
      clear A450
      replace H := Option.bind_eq_some_iff.mp H
      obtain ⟨⟨t149, t150, t151⟩, A460, H⟩ := H
      replace H : ((wide_Cmp.f k1 x137000_1 x137001_1 t149 t150).bind fun t152 => (if t152 > 0 then ((wide_Sub.f x137000_1 x137001_1 t149 t150).bind fun bt153 => (ratio_common.l0 k1 ji25 t149 t150 bt153.1 bt153.2.1)) else ((wide_Sub.f t149 t150 x137000_1 x137001_1).bind fun bt156 => (ratio_common.l0 k1 ji25 x137000_1 x137001_1 bt156.1 bt156.2.1)))) = some (r1, r2) := H
      have A46 := Aside0.mk A460
      clear A460
      replace H := Option.bind_eq_some_iff.mp H
      obtain ⟨t152, A470, H⟩ := H
      replace H : (if t152 > 0 then ((wide_Sub.f x137000_1 x137001_1 t149 t150).bind fun bt153 => (ratio_common.l0 k1 ji25 t149 t150 bt153.1 bt153.2.1)) else ((wide_Sub.f t149 t150 x137000_1 x137001_1).bind fun bt156 => (ratio_common.l0 k1 ji25 x137000_1 x137001_1 bt156.1 bt156.2.1))) = some (r1, r2) := H
      have A47 := Aside0.mk A470
      clear A470
      by_cases c48 : t152 > 0
      ·rw [if_pos c48] at H
       have c48b0 : decide (0 < t152) = true := decide_eq_true c48
       clear c48
       replace H := Option.bind_eq_some_iff.mp H
       obtain ⟨⟨t153, t154, t155⟩, A490, H⟩ := H
       replace H : (ratio_common.l0 k1 ji25 t149 t150 t153 t154) = some (r1, r2) := H
       have A49 := Aside0.mk A490
       clear A490
       have H' := Aside0.mk H
       clear H
       have hnb50 := NB137_136.out
       have hnc50 := NB136_137.out
       have hnb51 := NB137_138.out
       have hnc51 := NB138_137.out
       have hcz52_0 := ck BK137 0
       have hcz52_1 := ck BK137 1
       have hfz52_0 := blk_frozen BK137.out 0
       have hfz52_1 := blk_frozen BK137.out 1
       try go_wp2
       replace BK136 := Aside0.mk (blk_drew BK136.out)
       replace BK137 := Aside0.mk (blk_drew BK137.out)
       replace BK138 := Aside0.mk (blk_drew BK138.out)
       replace HB := Aside0.mk (below_drew1 HB.out)
       refine start_ (n := 9) (S := fun w' => w'.cell? ⟨gb137, 0, none⟩ = some (.int .u64 x138000_1) ∧ w'.cell? ⟨gb137, 1, none⟩ = some (.int .u64 x138001_1)) (ds := [8]) #[false, false, false, false, false, false, false, false, false] (by kernel_rfl) rfl rfl ⟨ck BK137 0, ck BK137 1⟩ (fun hHeld => ?_); refine with_tabW ratio_common.tab8 ratio_common.bits8 (fun HT_ HW_ => ?_)
       generalize wr.drew = w53 at BK136 BK137 BK138 HB hHeld ⊢
       refine take_ (i := 0) (N := some 31) (v := ?_) (a' := ?_) #[true, false, false, false, false, false, false, false, false] rfl rfl (take_ofW HT_.out HW_.out (by kernel_rfl)) (fun _ _ _ h => h) (Or.inl ⟨by rfl, ?_⟩) hHeld ?_ ?_
       rotate_left
       ·rintro w' ⟨s0, s1⟩
        go_simp
        with_reducible rfl
       rotate_left
       ·simp only [Act.put, List.setIfInBounds_toArray, List.set_cons_zero, List.set_cons_succ, i64_w, i32_w]
        rfl
       refine take_ (i := 1) (N := some 32) (v := ?_) (a' := ?_) #[true, true, false, false, false, false, false, false, false] rfl rfl (take_ofW HT_.out HW_.out (by kernel_rfl)) (fun _ _ _ h => h) (Or.inl ⟨by rfl, ?_⟩) hHeld ?_ ?_
       rotate_left
       ·rintro w' ⟨s0, s1⟩
        go_simp
        with_reducible rfl
       rotate_left
       ·simp only [Act.put, List.setIfInBounds_toArray, List.set_cons_zero, List.set_cons_succ, i64_w, i32_w]
        rfl
       refine one_ (i := 2) (N := some 33) #[true, true, true, false, false, false, false, false, false] rfl rfl (one_of HT_.out (by kernel_rfl)) (by decide) (fun K hK => ?_)
       refine goes_ Tryd.func47 (by kernel_rfl) rfl #[.agg #[.int .u64 x138000_1, .int .u64 x138001_1]] (by rfl) rfl rfl gm_ ?_
       with_reducible refine (ratio_twos.calls x138000_1 x138001_1 t148 _ ?side1 A45.out).mono ?_
       (case side1 => exact Glob.step hG (bl HB))
       rintro e w54 ⟨rfl, hb⟩
       refine ⟨_, rfl, ?_⟩
       replace BK136 := Aside0.mk (blk_below (kb BK136) hb)
       replace BK137 := Aside0.mk (blk_below (kb BK137) hb)
       replace BK138 := Aside0.mk (blk_below (kb BK138) hb)
       replace HB := Aside0.mk (below_step (bl HB) hb)
       (try clear hb)
       (try clear hb2)
       (try clear hk)
       (try clear hi)
       refine hK.out _ _ ⟨ck BK137 0, ck BK137 1⟩ (fun hHeld => ?_)
       clear hK K
       refine norm_ (a' := ?_) ?_ ?_
       rotate_left
       ·show Act.put _ (some 33) _ = _
        simp only [Act.put, List.setIfInBounds_toArray, List.set_cons_zero, List.set_cons_succ, i64_w, i32_w]
        rfl
       refine pure_ (i := 3) (N := some 34) (v := ?_) (a' := ?_) #[true, true, true, true, false, false, false, false, false] rfl rfl (any_of HT_.out (by kernel_rfl)) (fun _ _ _ h => h) (Or.inl ⟨by rfl, ?_⟩) ?_ ?_
       rotate_left
       ·intro w'
        go_simp
        with_reducible rfl
       rotate_left
       ·simp only [Act.put, List.setIfInBounds_toArray, List.set_cons_zero, List.set_cons_succ, i64_w, i32_w]
        rfl
       refine one_ (i := 4) (N := some 35) #[true, true, true, true, true, false, false, false, false] rfl rfl (one_of HT_.out (by kernel_rfl)) (by decide) (fun K hK => ?_)
       refine goes_ Tryd.func48 (by kernel_rfl) rfl #[.agg #[.int .u64 x138000_1, .int .u64 x138001_1], .int .i64 (wrap64 (-t148))] (by rfl) rfl rfl gm_ ?_
       with_reducible refine (wide_Shift.calls k1 x138000_1 x138001_1 (wrap64 (-t148)) t149 t150 t151 _ A46.out).mono ?_
       rintro e w55 ⟨rfl, hb⟩
       refine ⟨_, rfl, ?_⟩
       replace BK136 := Aside0.mk (blk_below (kb BK136) hb)
       replace BK137 := Aside0.mk (blk_below (kb BK137) hb)
       replace BK138 := Aside0.mk (blk_below (kb BK138) hb)
       replace HB := Aside0.mk (below_step (bl HB) hb)
       (try clear hb)
       (try clear hb2)
       (try clear hk)
       (try clear hi)
       refine hK.out _ _ ⟨ck BK137 0, ck BK137 1⟩ (fun hHeld => ?_)
       clear hK K
       refine norm_ (a' := ?_) ?_ ?_
       rotate_left
       ·show Act.put _ (some 35) _ = _
        simp only [Act.put, List.setIfInBounds_toArray, List.set_cons_zero, List.set_cons_succ, i64_w, i32_w]
        rfl
       refine pure_ (i := 5) (N := some 30) (v := ?_) (a' := ?_) #[true, true, true, true, true, true, false, false, false] rfl rfl (any_of HT_.out (by kernel_rfl)) (fun _ _ _ h => h) (Or.inl ⟨by rfl, ?_⟩) ?_ ?_
       rotate_left
       ·intro w'
        go_simp
        with_reducible rfl
       rotate_left
       ·simp only [Act.put, List.setIfInBounds_toArray, List.set_cons_zero, List.set_cons_succ, i64_w, i32_w]
        rfl
       refine pure_ (i := 6) (N := some 36) (v := ?_) (a' := ?_) #[true, true, true, true, true, true, true, false, false] rfl rfl (any_of HT_.out (by kernel_rfl)) (fun _ _ _ h => h) (Or.inl ⟨by rfl, ?_⟩) ?_ ?_
       rotate_left
       ·intro w'
        go_simp
        with_reducible rfl
       rotate_left
       ·simp only [Act.put, List.setIfInBounds_toArray, List.set_cons_zero, List.set_cons_succ, i64_w, i32_w]
        rfl
       refine pure_ (i := 7) (N := some 37) (v := ?_) (a' := ?_) #[true, true, true, true, true, true, true, true, false] rfl rfl (any_of HT_.out (by kernel_rfl)) (fun _ _ _ h => h) (Or.inl ⟨by rfl, ?_⟩) ?_ ?_
       rotate_left
       ·intro w'
        go_simp
        with_reducible rfl
       rotate_left
       ·simp only [Act.put, List.setIfInBounds_toArray, List.set_cons_zero, List.set_cons_succ, i64_w, i32_w]
        rfl
       refine last_ (i := 8) (N := none) #[true, true, true, true, true, true, true, true, true] rfl rfl (one_of HT_.out (by kernel_rfl)) (by decide) (fun K hK => ?_)
       have hs56 : w55.cell? ⟨gb137, 0, none⟩ = some (.int .u64 x138000_1) := ck BK137 0
       have hfs56 := blk_frozen BK137.out 0
       have hns56_0 := NB136_137.out
       have hns56_2 := NB138_137.out
       have hms56_0 := NB137_136.out
       have hms56_2 := NB137_138.out
       have hs57 : w55.cell? ⟨gb137, 1, none⟩ = some (.int .u64 x138001_1) := ck BK137 1
       have hfs57 := blk_frozen BK137.out 1
       have hns57_0 := NB136_137.out
       have hns57_2 := NB138_137.out
       have hms57_0 := NB137_136.out
       have hms57_2 := NB137_138.out
       refine skip_ (w1 := ?_) (by rfl) rfl ?_ ?_
       rotate_left
       ·go_simp
        rfl
       refine hK.out _ _ ?_
       clear hK K
       refine done_ (done_of HT_.out (by kernel_rfl)) ?_
       have hnb58 := NB136_138.out
       have hnc58 := NB138_136.out
       have hcz59_0 := ck BK136 0
       have hcz59_1 := ck BK136 1
       have hfz59_0 := blk_frozen BK136.out 0
       have hfz59_1 := blk_frozen BK136.out 1
       have hcz60_0 := ck BK137 0
       have hcz60_1 := ck BK137 1
       have hfz60_0 := blk_frozen BK137.out 0
       have hfz60_1 := blk_frozen BK137.out 1
       try go_wp2_with (first | ((with_reducible refine gate_callee (f := 34) rfl ?_); refine goesL_ (some 40) rfl rfl Tryd.func34 (by kernel_rfl) rfl #[.agg #[.int .u64 x137000_1, .int .u64 x137001_1], .agg #[.int .u64 t149, .int .u64 t150]] rfl gm_ ?_; (with_reducible refine (wide_Cmp.calls k1 x137000_1 x137001_1 t149 t150 t152 _ A47.out).mono ?_); rintro e w61 ⟨rfl, hb⟩; refine ⟨_, rfl, ?_⟩; replace BK136 := Aside0.mk (blk_below (g := gb136) (o := .cells #[.int .u64 x137000_1, .int .u64 x137001_1] 47 (0, 0)) (by (with_reducible repeat (first | refine blk_drewN ?_ _ | refine blk_drew ?_ | refine blk_alloc ?_ _)); refine blk_far ?_ NB136_137.out _; (with_reducible repeat (first | refine blk_drewN ?_ _ | refine blk_drew ?_ | refine blk_alloc ?_ _)); refine blk_far ?_ NB136_137.out _; (with_reducible repeat (first | refine blk_drewN ?_ _ | refine blk_drew ?_ | refine blk_alloc ?_ _)); exact BK136.out) hb); replace BK137 := Aside0.mk (blk_below (g := gb137) (o := .cells #[.int .u64 t149, .int .u64 t150] 47 (0, 0)) (by (with_reducible repeat (first | refine blk_drewN ?_ _ | refine blk_drew ?_ | refine blk_alloc ?_ _)); refine blk_put (cs := #[.int .u64 t149, .int .u64 x138001_1]) ?_ 1 _ rfl; (with_reducible repeat (first | refine blk_drewN ?_ _ | refine blk_drew ?_ | refine blk_alloc ?_ _)); refine blk_put (cs := #[.int .u64 x138000_1, .int .u64 x138001_1]) ?_ 0 _ rfl; (with_reducible repeat (first | refine blk_drewN ?_ _ | refine blk_drew ?_ | refine blk_alloc ?_ _)); exact BK137.out) hb); replace BK138 := Aside0.mk (blk_below (g := gb138) (o := .cells #[.int .u64 0, .int .u64 0] 47 (0, 0)) (by (with_reducible repeat (first | refine blk_drewN ?_ _ | refine blk_drew ?_ | refine blk_alloc ?_ _)); refine blk_far ?_ NB138_137.out _; (with_reducible repeat (first | refine blk_drewN ?_ _ | refine blk_drew ?_ | refine blk_alloc ?_ _)); refine blk_far ?_ NB138_137.out _; (with_reducible repeat (first | refine blk_drewN ?_ _ | refine blk_drew ?_ | refine blk_alloc ?_ _)); exact BK138.out) hb); replace HB := Aside0.mk (below_step (bl HB) hb); (try clear hb); (try clear hb2); (try clear hk); (try clear hi); have hcz62_0 := ck BK137 0; have hcz62_1 := ck BK137 1; have hfz62_0 := blk_frozen BK137.out 0; have hfz62_1 := blk_frozen BK137.out 1; have hcz63_0 := ck BK136 0; have hcz63_1 := ck BK136 1; have hfz63_0 := blk_frozen BK136.out 0; have hfz63_1 := blk_frozen BK136.out 1) | ((with_reducible refine gate_callee (f := 49) rfl ?_); refine goesL_ (some 47) rfl rfl Tryd.func49 (by kernel_rfl) rfl #[.agg #[.int .u64 x137000_1, .int .u64 x137001_1], .agg #[.int .u64 t149, .int .u64 t150]] rfl gm_ ?_; (with_reducible refine (wide_Sub.calls x137000_1 x137001_1 t149 t150 t153 t154 t155 _ A49.out).mono ?_); rintro e w64 ⟨rfl, hb⟩; refine ⟨_, rfl, ?_⟩; replace BK136 := Aside0.mk (blk_below (g := gb136) (o := .cells #[.int .u64 t149, .int .u64 t150] 47 (0, 0)) (by (with_reducible repeat (first | refine blk_drewN ?_ _ | refine blk_drew ?_ | refine blk_alloc ?_ _)); refine blk_far ?_ NB136_137.out _; (with_reducible repeat (first | refine blk_drewN ?_ _ | refine blk_drew ?_ | refine blk_alloc ?_ _)); refine blk_far ?_ NB136_137.out _; (with_reducible repeat (first | refine blk_drewN ?_ _ | refine blk_drew ?_ | refine blk_alloc ?_ _)); refine blk_put (cs := #[.int .u64 t149, .int .u64 x137001_1]) ?_ 1 _ rfl; (with_reducible repeat (first | refine blk_drewN ?_ _ | refine blk_drew ?_ | refine blk_alloc ?_ _)); refine blk_put (cs := #[.int .u64 x137000_1, .int .u64 x137001_1]) ?_ 0 _ rfl; (with_reducible repeat (first | refine blk_drewN ?_ _ | refine blk_drew ?_ | refine blk_alloc ?_ _)); exact BK136.out) hb); replace BK137 := Aside0.mk (blk_below (g := gb137) (o := .cells #[.int .u64 x137000_1, .int .u64 x137001_1] 47 (0, 0)) (by (with_reducible repeat (first | refine blk_drewN ?_ _ | refine blk_drew ?_ | refine blk_alloc ?_ _)); refine blk_put (cs := #[.int .u64 x137000_1, .int .u64 t150]) ?_ 1 _ rfl; (with_reducible repeat (first | refine blk_drewN ?_ _ | refine blk_drew ?_ | refine blk_alloc ?_ _)); refine blk_put (cs := #[.int .u64 t149, .int .u64 t150]) ?_ 0 _ rfl; (with_reducible repeat (first | refine blk_drewN ?_ _ | refine blk_drew ?_ | refine blk_alloc ?_ _)); refine blk_far ?_ NB137_136.out _; (with_reducible repeat (first | refine blk_drewN ?_ _ | refine blk_drew ?_ | refine blk_alloc ?_ _)); refine blk_far ?_ NB137_136.out _; (with_reducible repeat (first | refine blk_drewN ?_ _ | refine blk_drew ?_ | refine blk_alloc ?_ _)); exact BK137.out) hb); replace BK138 := Aside0.mk (blk_below (g := gb138) (o := .cells #[.int .u64 0, .int .u64 0] 47 (0, 0)) (by (with_reducible repeat (first | refine blk_drewN ?_ _ | refine blk_drew ?_ | refine blk_alloc ?_ _)); refine blk_far ?_ NB138_137.out _; (with_reducible repeat (first | refine blk_drewN ?_ _ | refine blk_drew ?_ | refine blk_alloc ?_ _)); refine blk_far ?_ NB138_137.out _; (with_reducible repeat (first | refine blk_drewN ?_ _ | refine blk_drew ?_ | refine blk_alloc ?_ _)); refine blk_far ?_ NB138_136.out _; (with_reducible repeat (first | refine blk_drewN ?_ _ | refine blk_drew ?_ | refine blk_alloc ?_ _)); refine blk_far ?_ NB138_136.out _; (with_reducible repeat (first | refine blk_drewN ?_ _ | refine blk_drew ?_ | refine blk_alloc ?_ _)); exact BK138.out) hb); replace HB := Aside0.mk (below_step (bl HB) hb); (try clear hb); (try clear hb2); (try clear hk); (try clear hi); have hcz65_0 := ck BK137 0; have hcz65_1 := ck BK137 1; have hfz65_0 := blk_frozen BK137.out 0; have hfz65_1 := blk_frozen BK137.out 1))
       go_roundg k1
       case measure => have := HK1.out; omega
       case rel => exact ⟨(t149), (t150), (t153), (t154), H', ⟨by have := HK1.out; omega⟩, ⟨by (with_reducible repeat (first | refine blk_drewN ?_ _ | refine blk_drew ?_ | refine blk_alloc ?_ _)); refine blk_far ?_ NB136_137.out _; (with_reducible repeat (first | refine blk_drewN ?_ _ | refine blk_drew ?_ | refine blk_alloc ?_ _)); refine blk_far ?_ NB136_137.out _; (with_reducible repeat (first | refine blk_drewN ?_ _ | refine blk_drew ?_ | refine blk_alloc ?_ _)); exact BK136.out⟩, ⟨by (with_reducible repeat (first | refine blk_drewN ?_ _ | refine blk_drew ?_ | refine blk_alloc ?_ _)); refine blk_put (cs := #[.int .u64 t153, .int .u64 x137001_1]) ?_ 1 _ rfl; (with_reducible repeat (first | refine blk_drewN ?_ _ | refine blk_drew ?_ | refine blk_alloc ?_ _)); refine blk_put (cs := #[.int .u64 x137000_1, .int .u64 x137001_1]) ?_ 0 _ rfl; (with_reducible repeat (first | refine blk_drewN ?_ _ | refine blk_drew ?_ | refine blk_alloc ?_ _)); exact BK137.out⟩, ⟨by (with_reducible repeat (first | refine blk_drewN ?_ _ | refine blk_drew ?_ | refine blk_alloc ?_ _)); refine blk_far ?_ NB138_137.out _; (with_reducible repeat (first | refine blk_drewN ?_ _ | refine blk_drew ?_ | refine blk_alloc ?_ _)); refine blk_far ?_ NB138_137.out _; (with_reducible repeat (first | refine blk_drewN ?_ _ | refine blk_drew ?_ | refine blk_alloc ?_ _)); exact BK138.out⟩, ⟨bl HB⟩⟩
      ·rw [if_neg c48] at H
       have c48b0 : decide (0 < t152) = false := decide_eq_false c48
       clear c48
       replace H := Option.bind_eq_some_iff.mp H
       obtain ⟨⟨t156, t157, t158⟩, A660, H⟩ := H
       replace H : (ratio_common.l0 k1 ji25 x137000_1 x137001_1 t156 t157) = some (r1, r2) := H
       have A66 := Aside0.mk A660
       clear A660
       have H' := Aside0.mk H
       clear H
       have hnb67 := NB137_136.out
       have hnc67 := NB136_137.out
       have hnb68 := NB137_138.out
       have hnc68 := NB138_137.out
       have hcz69_0 := ck BK137 0
       have hcz69_1 := ck BK137 1
       have hfz69_0 := blk_frozen BK137.out 0
       have hfz69_1 := blk_frozen BK137.out 1
       try go_wp2
       replace BK136 := Aside0.mk (blk_drew BK136.out)
       replace BK137 := Aside0.mk (blk_drew BK137.out)
       replace BK138 := Aside0.mk (blk_drew BK138.out)
       replace HB := Aside0.mk (below_drew1 HB.out)
       refine start_ (n := 9) (S := fun w' => w'.cell? ⟨gb137, 0, none⟩ = some (.int .u64 x138000_1) ∧ w'.cell? ⟨gb137, 1, none⟩ = some (.int .u64 x138001_1)) (ds := [8]) #[false, false, false, false, false, false, false, false, false] (by kernel_rfl) rfl rfl ⟨ck BK137 0, ck BK137 1⟩ (fun hHeld => ?_); refine with_tabW ratio_common.tab8 ratio_common.bits8 (fun HT_ HW_ => ?_)
       generalize wr.drew = w70 at BK136 BK137 BK138 HB hHeld ⊢
       refine take_ (i := 0) (N := some 31) (v := ?_) (a' := ?_) #[true, false, false, false, false, false, false, false, false] rfl rfl (take_ofW HT_.out HW_.out (by kernel_rfl)) (fun _ _ _ h => h) (Or.inl ⟨by rfl, ?_⟩) hHeld ?_ ?_
       rotate_left
       ·rintro w' ⟨s0, s1⟩
        go_simp
        with_reducible rfl
       rotate_left
       ·simp only [Act.put, List.setIfInBounds_toArray, List.set_cons_zero, List.set_cons_succ, i64_w, i32_w]
        rfl
       refine take_ (i := 1) (N := some 32) (v := ?_) (a' := ?_) #[true, true, false, false, false, false, false, false, false] rfl rfl (take_ofW HT_.out HW_.out (by kernel_rfl)) (fun _ _ _ h => h) (Or.inl ⟨by rfl, ?_⟩) hHeld ?_ ?_
       rotate_left
       ·rintro w' ⟨s0, s1⟩
        go_simp
        with_reducible rfl
       rotate_left
       ·simp only [Act.put, List.setIfInBounds_toArray, List.set_cons_zero, List.set_cons_succ, i64_w, i32_w]
        rfl
       refine one_ (i := 2) (N := some 33) #[true, true, true, false, false, false, false, false, false] rfl rfl (one_of HT_.out (by kernel_rfl)) (by decide) (fun K hK => ?_)
       refine goes_ Tryd.func47 (by kernel_rfl) rfl #[.agg #[.int .u64 x138000_1, .int .u64 x138001_1]] (by rfl) rfl rfl gm_ ?_
       with_reducible refine (ratio_twos.calls x138000_1 x138001_1 t148 _ ?side1 A45.out).mono ?_
       (case side1 => exact Glob.step hG (bl HB))
       rintro e w71 ⟨rfl, hb⟩
       refine ⟨_, rfl, ?_⟩
       replace BK136 := Aside0.mk (blk_below (kb BK136) hb)
       replace BK137 := Aside0.mk (blk_below (kb BK137) hb)
       replace BK138 := Aside0.mk (blk_below (kb BK138) hb)
       replace HB := Aside0.mk (below_step (bl HB) hb)
       (try clear hb)
       (try clear hb2)
       (try clear hk)
       (try clear hi)
       refine hK.out _ _ ⟨ck BK137 0, ck BK137 1⟩ (fun hHeld => ?_)
       clear hK K
       refine norm_ (a' := ?_) ?_ ?_
       rotate_left
       ·show Act.put _ (some 33) _ = _
        simp only [Act.put, List.setIfInBounds_toArray, List.set_cons_zero, List.set_cons_succ, i64_w, i32_w]
        rfl
       refine pure_ (i := 3) (N := some 34) (v := ?_) (a' := ?_) #[true, true, true, true, false, false, false, false, false] rfl rfl (any_of HT_.out (by kernel_rfl)) (fun _ _ _ h => h) (Or.inl ⟨by rfl, ?_⟩) ?_ ?_
       rotate_left
       ·intro w'
        go_simp
        with_reducible rfl
       rotate_left
       ·simp only [Act.put, List.setIfInBounds_toArray, List.set_cons_zero, List.set_cons_succ, i64_w, i32_w]
        rfl
       refine one_ (i := 4) (N := some 35) #[true, true, true, true, true, false, false, false, false] rfl rfl (one_of HT_.out (by kernel_rfl)) (by decide) (fun K hK => ?_)
       refine goes_ Tryd.func48 (by kernel_rfl) rfl #[.agg #[.int .u64 x138000_1, .int .u64 x138001_1], .int .i64 (wrap64 (-t148))] (by rfl) rfl rfl gm_ ?_
       with_reducible refine (wide_Shift.calls k1 x138000_1 x138001_1 (wrap64 (-t148)) t149 t150 t151 _ A46.out).mono ?_
       rintro e w72 ⟨rfl, hb⟩
       refine ⟨_, rfl, ?_⟩
       replace BK136 := Aside0.mk (blk_below (kb BK136) hb)
       replace BK137 := Aside0.mk (blk_below (kb BK137) hb)
       replace BK138 := Aside0.mk (blk_below (kb BK138) hb)
       replace HB := Aside0.mk (below_step (bl HB) hb)
       (try clear hb)
       (try clear hb2)
       (try clear hk)
       (try clear hi)
       refine hK.out _ _ ⟨ck BK137 0, ck BK137 1⟩ (fun hHeld => ?_)
       clear hK K
       refine norm_ (a' := ?_) ?_ ?_
       rotate_left
       ·show Act.put _ (some 35) _ = _
        simp only [Act.put, List.setIfInBounds_toArray, List.set_cons_zero, List.set_cons_succ, i64_w, i32_w]
        rfl
       refine pure_ (i := 5) (N := some 30) (v := ?_) (a' := ?_) #[true, true, true, true, true, true, false, false, false] rfl rfl (any_of HT_.out (by kernel_rfl)) (fun _ _ _ h => h) (Or.inl ⟨by rfl, ?_⟩) ?_ ?_
       rotate_left
       ·intro w'
        go_simp
        with_reducible rfl
       rotate_left
       ·simp only [Act.put, List.setIfInBounds_toArray, List.set_cons_zero, List.set_cons_succ, i64_w, i32_w]
        rfl
       refine pure_ (i := 6) (N := some 36) (v := ?_) (a' := ?_) #[true, true, true, true, true, true, true, false, false] rfl rfl (any_of HT_.out (by kernel_rfl)) (fun _ _ _ h => h) (Or.inl ⟨by rfl, ?_⟩) ?_ ?_
       rotate_left
       ·intro w'
        go_simp
        with_reducible rfl
       rotate_left
       ·simp only [Act.put, List.setIfInBounds_toArray, List.set_cons_zero, List.set_cons_succ, i64_w, i32_w]
        rfl
       refine pure_ (i := 7) (N := some 37) (v := ?_) (a' := ?_) #[true, true, true, true, true, true, true, true, false] rfl rfl (any_of HT_.out (by kernel_rfl)) (fun _ _ _ h => h) (Or.inl ⟨by rfl, ?_⟩) ?_ ?_
       rotate_left
       ·intro w'
        go_simp
        with_reducible rfl
       rotate_left
       ·simp only [Act.put, List.setIfInBounds_toArray, List.set_cons_zero, List.set_cons_succ, i64_w, i32_w]
        rfl
       refine last_ (i := 8) (N := none) #[true, true, true, true, true, true, true, true, true] rfl rfl (one_of HT_.out (by kernel_rfl)) (by decide) (fun K hK => ?_)
       have hs73 : w72.cell? ⟨gb137, 0, none⟩ = some (.int .u64 x138000_1) := ck BK137 0
       have hfs73 := blk_frozen BK137.out 0
       have hns73_0 := NB136_137.out
       have hns73_2 := NB138_137.out
       have hms73_0 := NB137_136.out
       have hms73_2 := NB137_138.out
       have hs74 : w72.cell? ⟨gb137, 1, none⟩ = some (.int .u64 x138001_1) := ck BK137 1
       have hfs74 := blk_frozen BK137.out 1
       have hns74_0 := NB136_137.out
       have hns74_2 := NB138_137.out
       have hms74_0 := NB137_136.out
       have hms74_2 := NB137_138.out
       refine skip_ (w1 := ?_) (by rfl) rfl ?_ ?_
       rotate_left
       ·go_simp
        rfl
       refine hK.out _ _ ?_
       clear hK K
       refine done_ (done_of HT_.out (by kernel_rfl)) ?_
       have hnb75 := NB136_138.out
       have hnc75 := NB138_136.out
       have hcz76_0 := ck BK136 0
       have hcz76_1 := ck BK136 1
       have hfz76_0 := blk_frozen BK136.out 0
       have hfz76_1 := blk_frozen BK136.out 1
       have hcz77_0 := ck BK137 0
       have hcz77_1 := ck BK137 1
       have hfz77_0 := blk_frozen BK137.out 0
       have hfz77_1 := blk_frozen BK137.out 1
       try go_wp2_with (first | ((with_reducible refine gate_callee (f := 34) rfl ?_); refine goesL_ (some 40) rfl rfl Tryd.func34 (by kernel_rfl) rfl #[.agg #[.int .u64 x137000_1, .int .u64 x137001_1], .agg #[.int .u64 t149, .int .u64 t150]] rfl gm_ ?_; (with_reducible refine (wide_Cmp.calls k1 x137000_1 x137001_1 t149 t150 t152 _ A47.out).mono ?_); rintro e w78 ⟨rfl, hb⟩; refine ⟨_, rfl, ?_⟩; replace BK136 := Aside0.mk (blk_below (g := gb136) (o := .cells #[.int .u64 x137000_1, .int .u64 x137001_1] 47 (0, 0)) (by (with_reducible repeat (first | refine blk_drewN ?_ _ | refine blk_drew ?_ | refine blk_alloc ?_ _)); refine blk_far ?_ NB136_137.out _; (with_reducible repeat (first | refine blk_drewN ?_ _ | refine blk_drew ?_ | refine blk_alloc ?_ _)); refine blk_far ?_ NB136_137.out _; (with_reducible repeat (first | refine blk_drewN ?_ _ | refine blk_drew ?_ | refine blk_alloc ?_ _)); exact BK136.out) hb); replace BK137 := Aside0.mk (blk_below (g := gb137) (o := .cells #[.int .u64 t149, .int .u64 t150] 47 (0, 0)) (by (with_reducible repeat (first | refine blk_drewN ?_ _ | refine blk_drew ?_ | refine blk_alloc ?_ _)); refine blk_put (cs := #[.int .u64 t149, .int .u64 x138001_1]) ?_ 1 _ rfl; (with_reducible repeat (first | refine blk_drewN ?_ _ | refine blk_drew ?_ | refine blk_alloc ?_ _)); refine blk_put (cs := #[.int .u64 x138000_1, .int .u64 x138001_1]) ?_ 0 _ rfl; (with_reducible repeat (first | refine blk_drewN ?_ _ | refine blk_drew ?_ | refine blk_alloc ?_ _)); exact BK137.out) hb); replace BK138 := Aside0.mk (blk_below (g := gb138) (o := .cells #[.int .u64 0, .int .u64 0] 47 (0, 0)) (by (with_reducible repeat (first | refine blk_drewN ?_ _ | refine blk_drew ?_ | refine blk_alloc ?_ _)); refine blk_far ?_ NB138_137.out _; (with_reducible repeat (first | refine blk_drewN ?_ _ | refine blk_drew ?_ | refine blk_alloc ?_ _)); refine blk_far ?_ NB138_137.out _; (with_reducible repeat (first | refine blk_drewN ?_ _ | refine blk_drew ?_ | refine blk_alloc ?_ _)); exact BK138.out) hb); replace HB := Aside0.mk (below_step (bl HB) hb); (try clear hb); (try clear hb2); (try clear hk); (try clear hi); have hcz79_0 := ck BK137 0; have hcz79_1 := ck BK137 1; have hfz79_0 := blk_frozen BK137.out 0; have hfz79_1 := blk_frozen BK137.out 1; have hcz80_0 := ck BK136 0; have hcz80_1 := ck BK136 1; have hfz80_0 := blk_frozen BK136.out 0; have hfz80_1 := blk_frozen BK136.out 1) | ((with_reducible refine gate_callee (f := 49) rfl ?_); refine goesL_ (some 47) rfl rfl Tryd.func49 (by kernel_rfl) rfl #[.agg #[.int .u64 t149, .int .u64 t150], .agg #[.int .u64 x137000_1, .int .u64 x137001_1]] rfl gm_ ?_; (with_reducible refine (wide_Sub.calls t149 t150 x137000_1 x137001_1 t156 t157 t158 _ A66.out).mono ?_); rintro e w81 ⟨rfl, hb⟩; refine ⟨_, rfl, ?_⟩; replace BK136 := Aside0.mk (blk_below (kb BK136) hb); replace BK137 := Aside0.mk (blk_below (kb BK137) hb); replace BK138 := Aside0.mk (blk_below (kb BK138) hb); replace HB := Aside0.mk (below_step (bl HB) hb); (try clear hb); (try clear hb2); (try clear hk); (try clear hi); have hcz82_0 := ck BK137 0; have hcz82_1 := ck BK137 1; have hfz82_0 := blk_frozen BK137.out 0; have hfz82_1 := blk_frozen BK137.out 1))
       go_roundg k1
       case measure => have := HK1.out; omega
       case rel => exact ⟨(x137000_1), (x137001_1), (t156), (t157), H', ⟨by have := HK1.out; omega⟩, ⟨by (with_reducible repeat (first | refine blk_drewN ?_ _ | refine blk_drew ?_ | refine blk_alloc ?_ _)); refine blk_far ?_ NB136_137.out _; (with_reducible repeat (first | refine blk_drewN ?_ _ | refine blk_drew ?_ | refine blk_alloc ?_ _)); refine blk_far ?_ NB136_137.out _; (with_reducible repeat (first | refine blk_drewN ?_ _ | refine blk_drew ?_ | refine blk_alloc ?_ _)); exact BK136.out⟩, ⟨by (with_reducible repeat (first | refine blk_drewN ?_ _ | refine blk_drew ?_ | refine blk_alloc ?_ _)); refine blk_put (cs := #[.int .u64 t156, .int .u64 t150]) ?_ 1 _ rfl; (with_reducible repeat (first | refine blk_drewN ?_ _ | refine blk_drew ?_ | refine blk_alloc ?_ _)); refine blk_put (cs := #[.int .u64 t149, .int .u64 t150]) ?_ 0 _ rfl; (with_reducible repeat (first | refine blk_drewN ?_ _ | refine blk_drew ?_ | refine blk_alloc ?_ _)); exact BK137.out⟩, ⟨by (with_reducible repeat (first | refine blk_drewN ?_ _ | refine blk_drew ?_ | refine blk_alloc ?_ _)); refine blk_far ?_ NB138_137.out _; (with_reducible repeat (first | refine blk_drewN ?_ _ | refine blk_drew ?_ | refine blk_alloc ?_ _)); refine blk_far ?_ NB138_137.out _; (with_reducible repeat (first | refine blk_drewN ?_ _ | refine blk_drew ?_ | refine blk_alloc ?_ _)); exact BK138.out⟩, ⟨bl HB⟩⟩
     ·rw [if_neg c44] at H
      have c44b0 : (!(x138000_1 == 0) || (!(x138001_1 == 0))) = false := by simpa using c44
      clear c44
      replace H := Option.bind_eq_some_iff.mp H
      obtain ⟨⟨t145, t146, t147⟩, A830, H⟩ := H
      replace H : (some (t145, t146)) = some (r1, r2) := H
      have A83 := Aside0.mk A830
      clear A830
      simp only [Option.some.injEq, Prod.mk.injEq] at H
      obtain ⟨rfl, rfl⟩ := H
      have hnb84 := NB137_136.out
      have hnc84 := NB136_137.out
      have hnb85 := NB137_138.out
      have hnc85 := NB138_137.out
      have hcz86_0 := ck BK137 0
      have hcz86_1 := ck BK137 1
      have hfz86_0 := blk_frozen BK137.out 0
      have hfz86_1 := blk_frozen BK137.out 1
      have hnb87 := NB136_138.out
      have hnc87 := NB138_136.out
      have hcz88_0 := ck BK136 0
      have hcz88_1 := ck BK136 1
      have hfz88_0 := blk_frozen BK136.out 0
      have hfz88_1 := blk_frozen BK136.out 1
      go_wp2_with (first | ((with_reducible refine gate_callee (f := 48) rfl ?_); refine goesL_ (some 53) rfl rfl Tryd.func48 (by kernel_rfl) rfl #[.agg #[.int .u64 x137000_1, .int .u64 x137001_1], .int .i64 ji25] rfl (by (try simp only [List.map_toArray, List.map_cons, List.map_nil]); first | done | (simp only [hji25]; rfl) | rfl | (simp only [List.length_drop, List.length_take]; rfl)) ?_; (with_reducible refine (wide_Shift.calls k1 x137000_1 x137001_1 ji25 t145 t146 t147 _ A83.out).mono ?_); rintro e w89 ⟨rfl, hb⟩; refine ⟨_, rfl, ?_⟩; replace BK136 := Aside0.mk (blk_below (kb BK136) hb); replace BK137 := Aside0.mk (blk_below (kb BK137) hb); replace BK138 := Aside0.mk (blk_below (kb BK138) hb); replace HB := Aside0.mk (below_step (bl HB) hb); (try clear hb); (try clear hb2); (try clear hk); (try clear hi); have hcz90_0 := ck BK136 0; have hcz90_1 := ck BK136 1; have hfz90_0 := blk_frozen BK136.out 0; have hfz90_1 := blk_frozen BK136.out 1; have hcz91_0 := ck BK138 0; have hcz91_1 := ck BK138 1; have hfz91_0 := blk_frozen BK138.out 0; have hfz91_1 := blk_frozen BK138.out 1))
      refine bodyPost_ret (results_cell_row rfl _ _ gb138 47 #[.int .u64 t145, .int .u64 t146] (0, 0) _ rfl (by (with_reducible repeat (first | refine blk_drewN ?_ _ | refine blk_drew ?_ | refine blk_alloc ?_ _)); refine blk_put (cs := #[.int .u64 t145, .int .u64 0]) ?_ 1 _ rfl; (with_reducible repeat (first | refine blk_drewN ?_ _ | refine blk_drew ?_ | refine blk_alloc ?_ _)); refine blk_put (cs := #[.int .u64 0, .int .u64 0]) ?_ 0 _ rfl; (with_reducible repeat (first | refine blk_drewN ?_ _ | refine blk_drew ?_ | refine blk_alloc ?_ _)); refine blk_far ?_ NB138_136.out _; (with_reducible repeat (first | refine blk_drewN ?_ _ | refine blk_drew ?_ | refine blk_alloc ?_ _)); refine blk_far ?_ NB138_136.out _; (with_reducible repeat (first | refine blk_drewN ?_ _ | refine blk_drew ?_ | refine blk_alloc ?_ _)); exact BK138.out) Tryd.underlying47 rfl (by kernel_rfl)) rfl ?_
      exact ⟨by first | rfl | (simp [errW_none, errW_some] <;> rfl) | (simp only [← hji25]; first | rfl | (simp [errW_none, errW_some] <;> rfl)) | (simp [*, errW_none, errW_some] <;> rfl), bl HB⟩

end Go.Proofs.YtglcjhjmncolpaaDoor.Q
