-- Written for this claim by a program of the session (wip/print2). Not trusted: Lean checks it.
import Derived.Test.YtglcjhjmncolpaaDoorQx0
import Derived.Test.YtglcjhjmncolpaaDoorQx2
import Derived.Test.YtglcjhjmncolpaaDoorQx3
namespace Go.Proofs.YtglcjhjmncolpaaDoor.Q
open Go.RowKit Go.Proofs.YtglcjhjmncolpaaDoorW.PrintWords Go.Proofs.YtglcjhjmncolpaaDoorW.PrintLast Go.Proofs.YtglcjhjmncolpaaDoorW.PrintMore
attribute [local go_sem] max2_int min2_int max_two min_two max_three min_three max_four min_four   -- for this text's walks alone
set_option linter.unusedVariables false
set_option linter.unusedSimpArgs false

attribute [local go_sem high] eqA47
/-! ### wide_Shift: function 48 -/
def wide_Shift.j0 : Nat → Int → Bool → Int → Int → Option (Int × Int × Int)
 | 0, _, _, _, _ => none
 | k + 1, x1, x6, x123000, x123001 => if x6 = true then (some (0, 0, 0)) else (if x1 < 0 then ((wide_right.f x123000 x123001 (IntKind.u64.wrap (wrap64 (-x1)))).bind fun bt124 => (some (bt124.1, bt124.2, 0))) else ((wide_Bits.f x123000 x123001).bind fun t126 => (if x1 > (wrap64 (128 - t126)) then (some (0, 0, 2)) else ((wide_left.f x123000 x123001 (IntKind.u64.wrap (x1))).bind fun bt127 => (some (bt127.1, bt127.2, 0))))))
def wide_Shift.f (k : Nat) (a0_0 : Int) (a0_1 : Int) (a1 : Int) : Option (Int × Int × Int) := if (a0_0 == 0 && (a0_1 == 0)) = true then (wide_Shift.j0 k a1 true a0_0 a0_1) else (wide_Shift.j0 k a1 (decide (a1 ≤ (-128))) a0_0 a0_1)
theorem wide_Shift.mono_l : ∀ k, (∀ y0 y1 y2 y3, LeO (wide_Shift.j0 k y0 y1 y2 y3) (wide_Shift.j0 (k + 1) y0 y1 y2 y3))
 | 0 => fun _ _ _ _ r h => by simp [wide_Shift.j0] at h
 | k + 1 => by
  have ih0 := wide_Shift.mono_l k
  ·intro y0 y1 y2 y3
   unfold wide_Shift.j0
   repeat' first
   | (with_reducible exact ih0 _ _ _ _)
   | (with_reducible exact LeO.refl _)
   | (with_reducible exact LeO.none _)
   | (with_reducible refine LeO.ite ?_ ?_)
   | (with_reducible refine LeO.bind ?_ (fun _ => ?_))
   | exact ih0 _ _ _ _
   | exact LeO.none _
   | refine LeO.ite ?_ ?_
   | refine LeO.bind ?_ (fun _ => ?_)
theorem wide_Shift.mono : ∀ a0 a1 a2 k, LeO (wide_Shift.f k a0 a1 a2) (wide_Shift.f (k + 1) a0 a1 a2) := by
 intro a0 a1 a2 k
 have ih0 := wide_Shift.mono_l k
 unfold wide_Shift.f
 repeat' first
   | (with_reducible exact ih0 _ _ _ _)
   | (with_reducible exact LeO.refl _)
   | (with_reducible exact LeO.none _)
   | (with_reducible refine LeO.ite ?_ ?_)
   | (with_reducible refine LeO.bind ?_ (fun _ => ?_))
   | exact ih0 _ _ _ _
   | exact LeO.none _
   | refine LeO.ite ?_ ?_
   | refine LeO.bind ?_ (fun _ => ?_)
set_option maxHeartbeats 8000000 in
set_option maxRecDepth 100000 in
theorem wide_Shift.calls (k : Nat) (a0_0 : Int) (a0_1 : Int) (a1 : Int) (r1 : Int) (r2 : Int) (r3 : Int) (w : World) (h : wide_Shift.f k a0_0 a0_1 a1 = some (r1, r2, r3)) :
  Calls Tryd.prog 48 #[.agg #[.int .u64 a0_0, .int .u64 a0_1], .int .i64 a1] w fun e w' => e = .returned (.tuple #[.agg #[.int .u64 r1, .int .u64 r2], .int .i64 r3]) ∧ Below w.heap.size w w' := by
 have hu47 := Tryd.underlying47
 have HB := Aside0.mk (Below.refl w.heap.size w)
 have H : (if (a0_0 == 0 && (a0_1 == 0)) = true then (wide_Shift.j0 k a1 true a0_0 a0_1) else (wide_Shift.j0 k a1 (decide (a1 ≤ (-128))) a0_0 a0_1)) = some (r1, r2, r3) := h
 clear h
 have HC3 := Aside0.mk H
 clear H
 go_enter Tryd.func48, Tryd.ntmps48
 go_upto_region 1 with (first | ((with_reducible refine gate_dst (N := 2) rfl ?_); refine box_event ?hg (N := 2) ?hd (cs := #[.int .u64 a0_0, .int .u64 a0_1]) (t := 47) ?hr ?_; (case hd => rfl); (case hg => rfl); (case hr => exact gs_); intro gb122 hg w4 hbox hb; have BK122 := Aside0.mk (hbox); have GW122 := Aside0.mk ((by rw [hg]; exact (below_size (bl HB)) : w.heap.size ≤ gb122)); have GE122 := Aside0.mk ((by rw [hg]; exact (below_size (bl HB)) : w.heap.size ≤ gb122)); replace HB := Aside0.mk (below_step (bl HB) hb); clear hb hbox hg) | ((with_reducible refine gate_dst (N := 4) rfl ?_); refine box_event ?hg (N := 4) ?hd (cs := #[.int .u64 0, .int .u64 0]) (t := 47) ?hr ?_; (case hd => rfl); (case hg => rfl); (case hr => exact gs_); intro gb123 hg w5 hbox hb; have BK123 := Aside0.mk (hbox); have GW123 := Aside0.mk ((by rw [hg]; exact (below_size (bl HB)) : w.heap.size ≤ gb123)); have GE123 := Aside0.mk ((by rw [hg]; exact (below_size (bl HB)) : w.heap.size ≤ gb123)); replace HB := Aside0.mk (below_step (bl HB) hb); have NB122_123 := Aside0.mk ((by rw [hg]; exact Nat.ne_of_lt (blk_lt (kb BK122)) : gb122 ≠ gb123)); have NB123_122 := Aside0.mk ((by rw [hg]; exact Nat.ne_of_gt (blk_lt (kb BK122)) : gb123 ≠ gb122)); replace BK122 := Aside0.mk (blk_below (kb BK122) hb); clear hb hbox hg))
 (try simp only [Act.put, List.setIfInBounds_toArray, List.set_cons_zero, List.set_cons_succ])
 go_cut [6] (fun v6 wc => ∃ (kq : Nat) (x6_2 : Bool), v6 = .bool x6_2 ∧ Aside0 (wide_Shift.j0 kq a1 x6_2 a0_0 a0_1 = some (r1, r2, r3)) ∧ Aside0 (kq ≤ k) ∧ Aside0 (wc.heap[gb122]? = some (.cells #[.int .u64 a0_0, .int .u64 a0_1] 47 (0, 0))) ∧ Aside0 (wc.heap[gb123]? = some (.cells #[.int .u64 0, .int .u64 0] 47 (0, 0))) ∧ Aside0 (Below w.heap.size w wc))
 case first =>
  have H := HC3.out
  clear HC3
  by_cases c6 : (a0_0 == 0 && (a0_1 == 0)) = true
  ·rw [if_pos c6] at H
   have c6b0 : (a0_0 == 0 && (a0_1 == 0)) = true := c6
   (try (have c6b1 : decide (a0_0 = 0 && (a0_1 == 0)) = true := by simpa using c6))
   (try (have c6b2 : (a0_0 == 0 && (a0_1 == 0)) = true := by simpa using c6))
   clear c6
   (first | rw [c6b0] | (simp only [i64_w, i32_w]; rw [c6b0]) | skip)
   have H' := Aside0.mk H
   clear H
   have hnb7 := NB122_123.out
   have hnc7 := NB123_122.out
   have hcz8_0 := ck BK122 0
   have hcz8_1 := ck BK122 1
   have hfz8_0 := blk_frozen BK122.out 0
   have hfz8_1 := blk_frozen BK122.out 1
   go_wp2
   go_meet
   case rel => exact ⟨_, (true), (by first | rfl | (simp; done) | (simp [*]; done)), H', ⟨by first | omega | exact Nat.le_refl _⟩, ⟨kb BK122⟩, ⟨kb BK123⟩, ⟨bl HB⟩⟩
  ·rw [if_neg c6] at H
   have c6b0 : (a0_0 == 0 && (a0_1 == 0)) = false := by simpa using c6
   (try (have c6b1 : decide (a0_0 = 0 && (a0_1 == 0)) = false := by simpa using c6))
   (try (have c6b2 : (a0_0 == 0 && (a0_1 == 0)) = false := by simpa using c6))
   (try (have c6b3 : ¬ (a0_0 = 0 && (a0_1 == 0)) := by simpa using c6))
   clear c6
   (first | rw [c6b0] | (simp only [i64_w, i32_w]; rw [c6b0]) | skip)
   have H' := Aside0.mk H
   clear H
   have hnb9 := NB122_123.out
   have hnc9 := NB123_122.out
   have hcz10_0 := ck BK122 0
   have hcz10_1 := ck BK122 1
   have hfz10_0 := blk_frozen BK122.out 0
   have hfz10_1 := blk_frozen BK122.out 1
   go_wp2
   go_meet
   case rel => exact ⟨_, (decide (a1 ≤ (-128))), (by first | rfl | (simp; done) | (simp [*]; done)), H', ⟨by first | omega | exact Nat.le_refl _⟩, ⟨kb BK122⟩, ⟨kb BK123⟩, ⟨bl HB⟩⟩
 case rest =>
  clear HC3
  try clear p2
  try clear c4
  try clear c6
  try clear c6b0
  try clear c6b1
  try clear c6b2
  try clear c7
  try clear c9
  try clear hcz10_0
  try clear hcz10_1
  try clear hcz8_0
  try clear hcz8_1
  try clear hfz10_0
  try clear hfz10_1
  try clear hfz8_0
  try clear hfz8_1
  obtain ⟨kq, x6_2, rfl, HA, HJ2, BK122, BK123, HB⟩ := hcut
  cases kq with
  | zero => exact absurd HA.out (by simp [wide_Shift.j0])
  | succ kj2 =>
   have H := HA.out
   clear HA
   simp only [wide_Shift.j0] at H
   by_cases c11 : x6_2 = true
   ·subst c11
    have H1 : (some (0, 0, 0)) = some (r1, r2, r3) := by rw [if_pos rfl] at H; exact H
    clear H
    have H := H1
    clear H1
    simp only [Option.some.injEq, Prod.mk.injEq] at H
    obtain ⟨rfl, rfl, rfl⟩ := H
    have hnb12 := NB123_122.out
    have hnc12 := NB122_123.out
    have hcz13_0 := ck BK123 0
    have hcz13_1 := ck BK123 1
    have hfz13_0 := blk_frozen BK123.out 0
    have hfz13_1 := blk_frozen BK123.out 1
    go_wp2
    refine bodyPost_ret (results_ct rfl _ _ gb123 47 #[.int .u64 0, .int .u64 0] (0, 0) _ rfl (by (with_reducible repeat (first | refine blk_drewN ?_ _ | refine blk_drew ?_ | refine blk_alloc ?_ _)); refine blk_put (cs := #[.int .u64 0, .int .u64 0]) ?_ 1 _ rfl; (with_reducible repeat (first | refine blk_drewN ?_ _ | refine blk_drew ?_ | refine blk_alloc ?_ _)); refine blk_put (cs := #[.int .u64 0, .int .u64 0]) ?_ 0 _ rfl; (with_reducible repeat (first | refine blk_drewN ?_ _ | refine blk_drew ?_ | refine blk_alloc ?_ _)); exact BK123.out) Tryd.underlying47 rfl (by kernel_rfl)) rfl ?_
    exact ⟨by first | rfl | (simp [errW_none, errW_some] <;> rfl) | (simp [*, errW_none, errW_some] <;> rfl), bl HB⟩
   ·replace c11 := Bool.eq_false_iff.mpr c11
    subst c11
    have H1 : (if a1 < 0 then ((wide_right.f a0_0 a0_1 (IntKind.u64.wrap (wrap64 (-a1)))).bind fun bt124 => (some (bt124.1, bt124.2, 0))) else ((wide_Bits.f a0_0 a0_1).bind fun t126 => (if a1 > (wrap64 (128 - t126)) then (some (0, 0, 2)) else ((wide_left.f a0_0 a0_1 (IntKind.u64.wrap (a1))).bind fun bt127 => (some (bt127.1, bt127.2, 0)))))) = some (r1, r2, r3) := by rw [if_neg (show ¬ (false = true) by decide)] at H; exact H
    clear H
    have H := H1
    clear H1
    by_cases c14 : a1 < 0
    ·rw [if_pos c14] at H
     have c14b0 : decide (a1 < 0) = true := decide_eq_true c14
     clear c14
     replace H := Option.bind_eq_some_iff.mp H
     obtain ⟨⟨t124, t125⟩, A150, H⟩ := H
     replace H : (some (t124, t125, 0)) = some (r1, r2, r3) := H
     have A15 := Aside0.mk A150
     clear A150
     simp only [Option.some.injEq, Prod.mk.injEq] at H
     obtain ⟨rfl, rfl, rfl⟩ := H
     have hnb16 := NB122_123.out
     have hnc16 := NB123_122.out
     have hcz17_0 := ck BK122 0
     have hcz17_1 := ck BK122 1
     have hfz17_0 := blk_frozen BK122.out 0
     have hfz17_1 := blk_frozen BK122.out 1
     go_wp2_with (first | ((with_reducible refine gate_callee (f := 67) rfl ?_); refine goesL_ (some 22) rfl rfl Tryd.func67 (by kernel_rfl) rfl #[.agg #[.int .u64 a0_0, .int .u64 a0_1], .int .u64 (IntKind.u64.wrap (wrap64 (-a1)))] rfl gm_ ?_; (with_reducible refine (wide_right.calls a0_0 a0_1 (IntKind.u64.wrap (wrap64 (-a1))) t124 t125 _ A15.out).mono ?_); rintro e w18 ⟨rfl, hb⟩; refine ⟨_, rfl, ?_⟩; replace BK122 := Aside0.mk (blk_below (kb BK122) hb); replace BK123 := Aside0.mk (blk_below (kb BK123) hb); replace HB := Aside0.mk (below_step (bl HB) hb); (try clear hb); (try clear hb2); (try clear hk); (try clear hi); have hcz19_0 := ck BK123 0; have hcz19_1 := ck BK123 1; have hfz19_0 := blk_frozen BK123.out 0; have hfz19_1 := blk_frozen BK123.out 1))
     refine bodyPost_ret (results_ct rfl _ _ gb123 47 #[.int .u64 t124, .int .u64 t125] (0, 0) _ rfl (by (with_reducible repeat (first | refine blk_drewN ?_ _ | refine blk_drew ?_ | refine blk_alloc ?_ _)); refine blk_put (cs := #[.int .u64 t124, .int .u64 0]) ?_ 1 _ rfl; (with_reducible repeat (first | refine blk_drewN ?_ _ | refine blk_drew ?_ | refine blk_alloc ?_ _)); refine blk_put (cs := #[.int .u64 0, .int .u64 0]) ?_ 0 _ rfl; (with_reducible repeat (first | refine blk_drewN ?_ _ | refine blk_drew ?_ | refine blk_alloc ?_ _)); exact BK123.out) Tryd.underlying47 rfl (by kernel_rfl)) rfl ?_
     exact ⟨by first | rfl | (simp [errW_none, errW_some] <;> rfl) | (simp [*, errW_none, errW_some] <;> rfl), bl HB⟩
    ·rw [if_neg c14] at H
     have c14b0 : decide (a1 < 0) = false := decide_eq_false c14
     clear c14
     replace H := Option.bind_eq_some_iff.mp H
     obtain ⟨t126, A200, H⟩ := H
     replace H : (if a1 > (wrap64 (128 - t126)) then (some (0, 0, 2)) else ((wide_left.f a0_0 a0_1 (IntKind.u64.wrap (a1))).bind fun bt127 => (some (bt127.1, bt127.2, 0)))) = some (r1, r2, r3) := H
     have A20 := Aside0.mk A200
     clear A200
     by_cases c21 : a1 > (wrap64 (128 - t126))
     ·rw [if_pos c21] at H
      have c21b0 : decide ((wrap64 (128 - t126)) < a1) = true := decide_eq_true c21
      clear c21
      simp only [Option.some.injEq, Prod.mk.injEq] at H
      obtain ⟨rfl, rfl, rfl⟩ := H
      have hnb22 := NB122_123.out
      have hnc22 := NB123_122.out
      have hcz23_0 := ck BK122 0
      have hcz23_1 := ck BK122 1
      have hfz23_0 := blk_frozen BK122.out 0
      have hfz23_1 := blk_frozen BK122.out 1
      go_wp2_with (first | ((with_reducible refine gate_callee (f := 68) rfl ?_); refine goesL_ (some 26) rfl rfl Tryd.func68 (by kernel_rfl) rfl #[.agg #[.int .u64 a0_0, .int .u64 a0_1]] rfl gm_ ?_; (with_reducible refine (wide_Bits.calls a0_0 a0_1 t126 _ A20.out).mono ?_); rintro e w24 ⟨rfl, hb⟩; refine ⟨_, rfl, ?_⟩; replace BK122 := Aside0.mk (blk_below (kb BK122) hb); replace BK123 := Aside0.mk (blk_below (kb BK123) hb); replace HB := Aside0.mk (below_step (bl HB) hb); (try clear hb); (try clear hb2); (try clear hk); (try clear hi); have hcz25_0 := ck BK123 0; have hcz25_1 := ck BK123 1; have hfz25_0 := blk_frozen BK123.out 0; have hfz25_1 := blk_frozen BK123.out 1))
      refine bodyPost_ret (results_ct rfl _ _ gb123 47 #[.int .u64 0, .int .u64 0] (0, 0) _ rfl (by (with_reducible repeat (first | refine blk_drewN ?_ _ | refine blk_drew ?_ | refine blk_alloc ?_ _)); refine blk_put (cs := #[.int .u64 0, .int .u64 0]) ?_ 1 _ rfl; (with_reducible repeat (first | refine blk_drewN ?_ _ | refine blk_drew ?_ | refine blk_alloc ?_ _)); refine blk_put (cs := #[.int .u64 0, .int .u64 0]) ?_ 0 _ rfl; (with_reducible repeat (first | refine blk_drewN ?_ _ | refine blk_drew ?_ | refine blk_alloc ?_ _)); exact BK123.out) Tryd.underlying47 rfl (by kernel_rfl)) rfl ?_
      exact ⟨by first | rfl | (simp [errW_none, errW_some] <;> rfl) | (simp [*, errW_none, errW_some] <;> rfl), bl HB⟩
     ·rw [if_neg c21] at H
      have c21b0 : decide ((wrap64 (128 - t126)) < a1) = false := decide_eq_false c21
      clear c21
      replace H := Option.bind_eq_some_iff.mp H
      obtain ⟨⟨t127, t128⟩, A260, H⟩ := H
      replace H : (some (t127, t128, 0)) = some (r1, r2, r3) := H
      have A26 := Aside0.mk A260
      clear A260
      simp only [Option.some.injEq, Prod.mk.injEq] at H
      obtain ⟨rfl, rfl, rfl⟩ := H
      have hnb27 := NB122_123.out
      have hnc27 := NB123_122.out
      have hcz28_0 := ck BK122 0
      have hcz28_1 := ck BK122 1
      have hfz28_0 := blk_frozen BK122.out 0
      have hfz28_1 := blk_frozen BK122.out 1
      go_wp2_with (first | ((with_reducible refine gate_callee (f := 68) rfl ?_); refine goesL_ (some 26) rfl rfl Tryd.func68 (by kernel_rfl) rfl #[.agg #[.int .u64 a0_0, .int .u64 a0_1]] rfl gm_ ?_; (with_reducible refine (wide_Bits.calls a0_0 a0_1 t126 _ A20.out).mono ?_); rintro e w29 ⟨rfl, hb⟩; refine ⟨_, rfl, ?_⟩; replace BK122 := Aside0.mk (blk_below (kb BK122) hb); replace BK123 := Aside0.mk (blk_below (kb BK123) hb); replace HB := Aside0.mk (below_step (bl HB) hb); (try clear hb); (try clear hb2); (try clear hk); (try clear hi); have hcz30_0 := ck BK122 0; have hcz30_1 := ck BK122 1; have hfz30_0 := blk_frozen BK122.out 0; have hfz30_1 := blk_frozen BK122.out 1) | ((with_reducible refine gate_callee (f := 69) rfl ?_); refine goesL_ (some 33) rfl rfl Tryd.func69 (by kernel_rfl) rfl #[.agg #[.int .u64 a0_0, .int .u64 a0_1], .int .u64 (IntKind.u64.wrap (a1))] rfl gm_ ?_; (with_reducible refine (wide_left.calls a0_0 a0_1 (IntKind.u64.wrap (a1)) t127 t128 _ A26.out).mono ?_); rintro e w31 ⟨rfl, hb⟩; refine ⟨_, rfl, ?_⟩; replace BK122 := Aside0.mk (blk_below (kb BK122) hb); replace BK123 := Aside0.mk (blk_below (kb BK123) hb); replace HB := Aside0.mk (below_step (bl HB) hb); (try clear hb); (try clear hb2); (try clear hk); (try clear hi); have hcz32_0 := ck BK123 0; have hcz32_1 := ck BK123 1; have hfz32_0 := blk_frozen BK123.out 0; have hfz32_1 := blk_frozen BK123.out 1))
      refine bodyPost_ret (results_ct rfl _ _ gb123 47 #[.int .u64 t127, .int .u64 t128] (0, 0) _ rfl (by (with_reducible repeat (first | refine blk_drewN ?_ _ | refine blk_drew ?_ | refine blk_alloc ?_ _)); refine blk_put (cs := #[.int .u64 t127, .int .u64 0]) ?_ 1 _ rfl; (with_reducible repeat (first | refine blk_drewN ?_ _ | refine blk_drew ?_ | refine blk_alloc ?_ _)); refine blk_put (cs := #[.int .u64 0, .int .u64 0]) ?_ 0 _ rfl; (with_reducible repeat (first | refine blk_drewN ?_ _ | refine blk_drew ?_ | refine blk_alloc ?_ _)); exact BK123.out) Tryd.underlying47 rfl (by kernel_rfl)) rfl ?_
      exact ⟨by first | rfl | (simp [errW_none, errW_some] <;> rfl) | (simp [*, errW_none, errW_some] <;> rfl), bl HB⟩

/-! ### wide_Sub: function 49 -/
def wide_Sub.f (a0_0 : Int) (a0_1 : Int) (a1_0 : Int) (a1_1 : Int) : Option (Int × Int × Int) := (bits_Sub64.f a0_1 a1_1 0).bind fun bt132 => ((bits_Sub64.f a0_0 a1_0 bt132.2).bind fun bt134 => (if bt134.2 = 0 then (some (bt134.1, bt132.1, 0)) else (some (0, 0, 2))))
set_option maxHeartbeats 8000000 in
set_option maxRecDepth 100000 in
theorem wide_Sub.calls (a0_0 : Int) (a0_1 : Int) (a1_0 : Int) (a1_1 : Int) (r1 : Int) (r2 : Int) (r3 : Int) (w : World) (h : wide_Sub.f a0_0 a0_1 a1_0 a1_1 = some (r1, r2, r3)) :
  Calls Tryd.prog 49 #[.agg #[.int .u64 a0_0, .int .u64 a0_1], .agg #[.int .u64 a1_0, .int .u64 a1_1]] w fun e w' => e = .returned (.tuple #[.agg #[.int .u64 r1, .int .u64 r2], .int .i64 r3]) ∧ Below w.heap.size w w' := by
 have hu47 := Tryd.underlying47
 have HB := Aside0.mk (Below.refl w.heap.size w)
 have H : ((bits_Sub64.f a0_1 a1_1 0).bind fun bt132 => ((bits_Sub64.f a0_0 a1_0 bt132.2).bind fun bt134 => (if bt134.2 = 0 then (some (bt134.1, bt132.1, 0)) else (some (0, 0, 2))))) = some (r1, r2, r3) := h
 clear h
 replace H := Option.bind_eq_some_iff.mp H
 obtain ⟨⟨t132, t133⟩, A30, H⟩ := H
 replace H : ((bits_Sub64.f a0_0 a1_0 t133).bind fun bt134 => (if bt134.2 = 0 then (some (bt134.1, t132, 0)) else (some (0, 0, 2)))) = some (r1, r2, r3) := H
 have A3 := Aside0.mk A30
 clear A30
 replace H := Option.bind_eq_some_iff.mp H
 obtain ⟨⟨t134, t135⟩, A40, H⟩ := H
 replace H : (if t135 = 0 then (some (t134, t132, 0)) else (some (0, 0, 2))) = some (r1, r2, r3) := H
 have A4 := Aside0.mk A40
 clear A40
 by_cases c5 : t135 = 0
 ·rw [if_pos c5] at H
  have c5b0 : (t135 == 0) = true := beq_iff_eq.mpr c5
  have c5b1 : (t135 != 0) = false := bne_eq_false_iff_eq.mpr c5
  clear c5
  simp only [Option.some.injEq, Prod.mk.injEq] at H
  obtain ⟨rfl, rfl, rfl⟩ := H
  go_enter Tryd.func49, Tryd.ntmps49
  go_wp2_with (first | ((with_reducible refine gate_dst (N := 2) rfl ?_); refine box_event ?hg (N := 2) ?hd (cs := #[.int .u64 a0_0, .int .u64 a0_1]) (t := 47) ?hr ?_; (case hd => rfl); (case hg => rfl); (case hr => exact gs_); intro gb129 hg w6 hbox hb; have BK129 := Aside0.mk (hbox); have GW129 := Aside0.mk ((by rw [hg]; exact (below_size (bl HB)) : w.heap.size ≤ gb129)); have GE129 := Aside0.mk ((by rw [hg]; exact (below_size (bl HB)) : w.heap.size ≤ gb129)); replace HB := Aside0.mk (below_step (bl HB) hb); clear hb hbox hg) | ((with_reducible refine gate_dst (N := 3) rfl ?_); refine box_event ?hg (N := 3) ?hd (cs := #[.int .u64 a1_0, .int .u64 a1_1]) (t := 47) ?hr ?_; (case hd => rfl); (case hg => rfl); (case hr => exact gs_); intro gb130 hg w7 hbox hb; have BK130 := Aside0.mk (hbox); have GW130 := Aside0.mk ((by rw [hg]; exact (below_size (bl HB)) : w.heap.size ≤ gb130)); have GE130 := Aside0.mk ((by rw [hg]; exact (below_size (bl HB)) : w.heap.size ≤ gb130)); replace HB := Aside0.mk (below_step (bl HB) hb); have NB129_130 := Aside0.mk ((by rw [hg]; exact Nat.ne_of_lt (blk_lt (kb BK129)) : gb129 ≠ gb130)); have NB130_129 := Aside0.mk ((by rw [hg]; exact Nat.ne_of_gt (blk_lt (kb BK129)) : gb130 ≠ gb129)); replace BK129 := Aside0.mk (blk_below (kb BK129) hb); clear hb hbox hg) | ((with_reducible refine gate_dst (N := 4) rfl ?_); refine box_event ?hg (N := 4) ?hd (cs := #[.int .u64 0, .int .u64 0]) (t := 47) ?hr ?_; (case hd => rfl); (case hg => rfl); (case hr => exact gs_); intro gb131 hg w8 hbox hb; have BK131 := Aside0.mk (hbox); have GW131 := Aside0.mk ((by rw [hg]; exact (below_size (bl HB)) : w.heap.size ≤ gb131)); have GE131 := Aside0.mk ((by rw [hg]; exact (below_size (bl HB)) : w.heap.size ≤ gb131)); replace HB := Aside0.mk (below_step (bl HB) hb); have NB129_131 := Aside0.mk ((by rw [hg]; exact Nat.ne_of_lt (blk_lt (kb BK129)) : gb129 ≠ gb131)); have NB131_129 := Aside0.mk ((by rw [hg]; exact Nat.ne_of_gt (blk_lt (kb BK129)) : gb131 ≠ gb129)); replace BK129 := Aside0.mk (blk_below (kb BK129) hb); have NB130_131 := Aside0.mk ((by rw [hg]; exact Nat.ne_of_lt (blk_lt (kb BK130)) : gb130 ≠ gb131)); have NB131_130 := Aside0.mk ((by rw [hg]; exact Nat.ne_of_gt (blk_lt (kb BK130)) : gb131 ≠ gb130)); replace BK130 := Aside0.mk (blk_below (kb BK130) hb); clear hb hbox hg; have hnb9 := NB129_130.out; have hnc9 := NB130_129.out; have hnb10 := NB129_131.out; have hnc10 := NB131_129.out; have hcz11_0 := ck BK129 0; have hcz11_1 := ck BK129 1; have hfz11_0 := blk_frozen BK129.out 0; have hfz11_1 := blk_frozen BK129.out 1; have hnb12 := NB130_131.out; have hnc12 := NB131_130.out; have hcz13_0 := ck BK130 0; have hcz13_1 := ck BK130 1; have hfz13_0 := blk_frozen BK130.out 0; have hfz13_1 := blk_frozen BK130.out 1) | ((with_reducible refine gate_callee (f := 70) rfl ?_); refine goesX_ (some 14) rfl rfl (f := 70) #[.int .u64 a0_1, .int .u64 a1_1, .int .u64 0] rfl gm_ ?_; (with_reducible refine (bits_Sub64.same a0_1 a1_1 0 t132 t133 _ A3.out).mono ?_); rintro e w' ⟨rfl, rfl⟩; refine ⟨_, rfl, ?_⟩) | ((with_reducible refine gate_callee (f := 70) rfl ?_); refine goesX_ (some 23) rfl rfl (f := 70) #[.int .u64 a0_0, .int .u64 a1_0, .int .u64 t133] rfl gm_ ?_; (with_reducible refine (bits_Sub64.same a0_0 a1_0 t133 t134 t135 _ A4.out).mono ?_); rintro e w' ⟨rfl, rfl⟩; refine ⟨_, rfl, ?_⟩; have hcz14_0 := ck BK131 0; have hcz14_1 := ck BK131 1; have hfz14_0 := blk_frozen BK131.out 0; have hfz14_1 := blk_frozen BK131.out 1))
  refine bodyPost_ret (results_ct rfl _ _ gb131 47 #[.int .u64 t134, .int .u64 t132] (0, 0) _ rfl (by (with_reducible repeat (first | refine blk_drewN ?_ _ | refine blk_drew ?_ | refine blk_alloc ?_ _)); refine blk_put (cs := #[.int .u64 t134, .int .u64 0]) ?_ 1 _ rfl; (with_reducible repeat (first | refine blk_drewN ?_ _ | refine blk_drew ?_ | refine blk_alloc ?_ _)); refine blk_put (cs := #[.int .u64 0, .int .u64 0]) ?_ 0 _ rfl; (with_reducible repeat (first | refine blk_drewN ?_ _ | refine blk_drew ?_ | refine blk_alloc ?_ _)); exact BK131.out) Tryd.underlying47 rfl (by kernel_rfl)) rfl ?_
  exact ⟨by first | rfl | (simp [errW_none, errW_some] <;> rfl) | (simp [*, errW_none, errW_some] <;> rfl), bl HB⟩
 ·rw [if_neg c5] at H
  have c5b0 : (t135 == 0) = false := beq_eq_false_iff_ne.mpr c5
  have c5b1 : (t135 != 0) = true := bne_iff_ne.mpr c5
  simp only [Option.some.injEq, Prod.mk.injEq] at H
  obtain ⟨rfl, rfl, rfl⟩ := H
  go_enter Tryd.func49, Tryd.ntmps49
  go_wp2_with (first | ((with_reducible refine gate_dst (N := 2) rfl ?_); refine box_event ?hg (N := 2) ?hd (cs := #[.int .u64 a0_0, .int .u64 a0_1]) (t := 47) ?hr ?_; (case hd => rfl); (case hg => rfl); (case hr => exact gs_); intro gb129 hg w15 hbox hb; have BK129 := Aside0.mk (hbox); have GW129 := Aside0.mk ((by rw [hg]; exact (below_size (bl HB)) : w.heap.size ≤ gb129)); have GE129 := Aside0.mk ((by rw [hg]; exact (below_size (bl HB)) : w.heap.size ≤ gb129)); replace HB := Aside0.mk (below_step (bl HB) hb); clear hb hbox hg) | ((with_reducible refine gate_dst (N := 3) rfl ?_); refine box_event ?hg (N := 3) ?hd (cs := #[.int .u64 a1_0, .int .u64 a1_1]) (t := 47) ?hr ?_; (case hd => rfl); (case hg => rfl); (case hr => exact gs_); intro gb130 hg w16 hbox hb; have BK130 := Aside0.mk (hbox); have GW130 := Aside0.mk ((by rw [hg]; exact (below_size (bl HB)) : w.heap.size ≤ gb130)); have GE130 := Aside0.mk ((by rw [hg]; exact (below_size (bl HB)) : w.heap.size ≤ gb130)); replace HB := Aside0.mk (below_step (bl HB) hb); have NB129_130 := Aside0.mk ((by rw [hg]; exact Nat.ne_of_lt (blk_lt (kb BK129)) : gb129 ≠ gb130)); have NB130_129 := Aside0.mk ((by rw [hg]; exact Nat.ne_of_gt (blk_lt (kb BK129)) : gb130 ≠ gb129)); replace BK129 := Aside0.mk (blk_below (kb BK129) hb); clear hb hbox hg) | ((with_reducible refine gate_dst (N := 4) rfl ?_); refine box_event ?hg (N := 4) ?hd (cs := #[.int .u64 0, .int .u64 0]) (t := 47) ?hr ?_; (case hd => rfl); (case hg => rfl); (case hr => exact gs_); intro gb131 hg w17 hbox hb; have BK131 := Aside0.mk (hbox); have GW131 := Aside0.mk ((by rw [hg]; exact (below_size (bl HB)) : w.heap.size ≤ gb131)); have GE131 := Aside0.mk ((by rw [hg]; exact (below_size (bl HB)) : w.heap.size ≤ gb131)); replace HB := Aside0.mk (below_step (bl HB) hb); have NB129_131 := Aside0.mk ((by rw [hg]; exact Nat.ne_of_lt (blk_lt (kb BK129)) : gb129 ≠ gb131)); have NB131_129 := Aside0.mk ((by rw [hg]; exact Nat.ne_of_gt (blk_lt (kb BK129)) : gb131 ≠ gb129)); replace BK129 := Aside0.mk (blk_below (kb BK129) hb); have NB130_131 := Aside0.mk ((by rw [hg]; exact Nat.ne_of_lt (blk_lt (kb BK130)) : gb130 ≠ gb131)); have NB131_130 := Aside0.mk ((by rw [hg]; exact Nat.ne_of_gt (blk_lt (kb BK130)) : gb131 ≠ gb130)); replace BK130 := Aside0.mk (blk_below (kb BK130) hb); clear hb hbox hg; have hnb18 := NB129_130.out; have hnc18 := NB130_129.out; have hnb19 := NB129_131.out; have hnc19 := NB131_129.out; have hcz20_0 := ck BK129 0; have hcz20_1 := ck BK129 1; have hfz20_0 := blk_frozen BK129.out 0; have hfz20_1 := blk_frozen BK129.out 1; have hnb21 := NB130_131.out; have hnc21 := NB131_130.out; have hcz22_0 := ck BK130 0; have hcz22_1 := ck BK130 1; have hfz22_0 := blk_frozen BK130.out 0; have hfz22_1 := blk_frozen BK130.out 1) | ((with_reducible refine gate_callee (f := 70) rfl ?_); refine goesX_ (some 14) rfl rfl (f := 70) #[.int .u64 a0_1, .int .u64 a1_1, .int .u64 0] rfl gm_ ?_; (with_reducible refine (bits_Sub64.same a0_1 a1_1 0 t132 t133 _ A3.out).mono ?_); rintro e w' ⟨rfl, rfl⟩; refine ⟨_, rfl, ?_⟩) | ((with_reducible refine gate_callee (f := 70) rfl ?_); refine goesX_ (some 23) rfl rfl (f := 70) #[.int .u64 a0_0, .int .u64 a1_0, .int .u64 t133] rfl gm_ ?_; (with_reducible refine (bits_Sub64.same a0_0 a1_0 t133 t134 t135 _ A4.out).mono ?_); rintro e w' ⟨rfl, rfl⟩; refine ⟨_, rfl, ?_⟩; have hcz23_0 := ck BK131 0; have hcz23_1 := ck BK131 1; have hfz23_0 := blk_frozen BK131.out 0; have hfz23_1 := blk_frozen BK131.out 1))
  refine bodyPost_ret (results_ct rfl _ _ gb131 47 #[.int .u64 0, .int .u64 0] (0, 0) _ rfl (by (with_reducible repeat (first | refine blk_drewN ?_ _ | refine blk_drew ?_ | refine blk_alloc ?_ _)); refine blk_put (cs := #[.int .u64 0, .int .u64 0]) ?_ 1 _ rfl; (with_reducible repeat (first | refine blk_drewN ?_ _ | refine blk_drew ?_ | refine blk_alloc ?_ _)); refine blk_put (cs := #[.int .u64 0, .int .u64 0]) ?_ 0 _ rfl; (with_reducible repeat (first | refine blk_drewN ?_ _ | refine blk_drew ?_ | refine blk_alloc ?_ _)); exact BK131.out) Tryd.underlying47 rfl (by kernel_rfl)) rfl ?_
  exact ⟨by first | rfl | (simp [errW_none, errW_some] <;> rfl) | (simp [*, errW_none, errW_some] <;> rfl), bl HB⟩

end Go.Proofs.YtglcjhjmncolpaaDoor.Q
