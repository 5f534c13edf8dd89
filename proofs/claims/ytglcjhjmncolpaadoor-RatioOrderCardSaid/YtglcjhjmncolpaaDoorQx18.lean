-- Written for this claim by a program of the session (wip/print2). Not trusted: Lean checks it.
import Derived.Test.YtglcjhjmncolpaaDoorQx0
import Derived.Test.YtglcjhjmncolpaaDoorQx14
import Derived.Test.YtglcjhjmncolpaaDoorQx17
namespace Go.Proofs.YtglcjhjmncolpaaDoor.Q
open Go.RowKit Go.Proofs.YtglcjhjmncolpaaDoorW.PrintWords Go.Proofs.YtglcjhjmncolpaaDoorW.PrintLast Go.Proofs.YtglcjhjmncolpaaDoorW.PrintMore
attribute [local go_sem] max2_int min2_int max_two min_two max_three min_three max_four min_four   -- for this text's walks alone
set_option linter.unusedVariables false
set_option linter.unusedSimpArgs false

/-! ### pochoirref02_Mul: function 53 -/
mutual
def pochoirref02_Mul.l0 : Nat → List Int → Int → Bool → List Int → Bool → List Int → Option (Bool × List Int)
 | 0, _, _, _, _, _, _ => none
 | k + 1, x5, x6, x389000, x389001, x390000, x390001 => if x6 < (x389001.length : Int) then (pochoirref02_Mul.l1 k x5 x6 0 0 x389000 x389001 x390000 x390001) else ((pochoirref02_norm.f k (x389000 != x390000) x5).bind fun bt394 => (some (bt394.1, bt394.2)))
def pochoirref02_Mul.l1 : Nat → List Int → Int → Int → Int → Bool → List Int → Bool → List Int → Option (Bool × List Int)
 | 0, _, _, _, _, _, _, _, _ => none
 | k + 1, x5, x6, x7, x8, x389000, x389001, x390000, x390001 => if x8 < (x390001.length : Int) then (if 0 ≤ (wrap64 (x6 + x8)) then (if (wrap64 (x6 + x8)) < (x5.length : Int) then (if 0 ≤ x6 then (if x6 < (x389001.length : Int) then ((pochoirref02_at.f x390001 x8).bind fun t400 => (pochoirref02_Mul.l1 k (x5.set ((wrap64 (x6 + x8)) : Int).toNat (Int.tmod (IntKind.u64.wrap ((IntKind.u64.wrap ((rd x5 (wrap64 (x6 + x8))) + (IntKind.u64.wrap ((rd x389001 x6) * t400)))) + x7)) 65536)) x6 (IntKind.u64.wrap (Int.tdiv (IntKind.u64.wrap ((IntKind.u64.wrap ((rd x5 (wrap64 (x6 + x8))) + (IntKind.u64.wrap ((rd x389001 x6) * t400)))) + x7)) 65536)) (wrap64 (x8 + 1)) x389000 x389001 x390000 x390001)) else (none)) else (none)) else (none)) else (none)) else (if x7 > 0 then (if 0 ≤ (wrap64 (x6 + x8)) then (if (wrap64 (x6 + x8)) < (x5.length : Int) then (if 0 ≤ x6 then (if x6 < (x389001.length : Int) then ((pochoirref02_at.f x390001 x8).bind fun t404 => (pochoirref02_Mul.l1 k (x5.set ((wrap64 (x6 + x8)) : Int).toNat (Int.tmod (IntKind.u64.wrap ((IntKind.u64.wrap ((rd x5 (wrap64 (x6 + x8))) + (IntKind.u64.wrap ((rd x389001 x6) * t404)))) + x7)) 65536)) x6 (IntKind.u64.wrap (Int.tdiv (IntKind.u64.wrap ((IntKind.u64.wrap ((rd x5 (wrap64 (x6 + x8))) + (IntKind.u64.wrap ((rd x389001 x6) * t404)))) + x7)) 65536)) (wrap64 (x8 + 1)) x389000 x389001 x390000 x390001)) else (none)) else (none)) else (none)) else (none)) else (pochoirref02_Mul.l0 k x5 (wrap64 (x6 + 1)) x389000 x389001 x390000 x390001))
end
def pochoirref02_Mul.f (k : Nat) (a0_0 : Bool) (l0_1 : List Int) (a1_0 : Bool) (l1_1 : List Int) : Option (Bool × List Int) := if 0 ≤ (wrap64 ((wrap64 ((l0_1.length : Int) + (l1_1.length : Int))) + 1)) then (if (wrap64 ((wrap64 ((l0_1.length : Int) + (l1_1.length : Int))) + 1) : Int).toNat ≤ 35184372088832 then (pochoirref02_Mul.l0 k (List.replicate (wrap64 ((wrap64 ((l0_1.length : Int) + (l1_1.length : Int))) + 1) : Int).toNat 0) 0 a0_0 l0_1 a1_0 l1_1) else (none)) else (none)
theorem pochoirref02_Mul.mono_l : ∀ k, (∀ y0 y1 y2 y3 y4 y5, LeO (pochoirref02_Mul.l0 k y0 y1 y2 y3 y4 y5) (pochoirref02_Mul.l0 (k + 1) y0 y1 y2 y3 y4 y5)) ∧ (∀ y0 y1 y2 y3 y4 y5 y6 y7, LeO (pochoirref02_Mul.l1 k y0 y1 y2 y3 y4 y5 y6 y7) (pochoirref02_Mul.l1 (k + 1) y0 y1 y2 y3 y4 y5 y6 y7))
 | 0 => ⟨fun _ _ _ _ _ _ r h => by simp [pochoirref02_Mul.l0] at h, fun _ _ _ _ _ _ _ _ r h => by simp [pochoirref02_Mul.l1] at h⟩
 | k + 1 => by
  obtain ⟨ih0, ih1⟩ := pochoirref02_Mul.mono_l k
  refine ⟨?_, ?_⟩
  ·intro y0 y1 y2 y3 y4 y5
   unfold pochoirref02_Mul.l0
   repeat' first
   | (with_reducible exact ih0 _ _ _ _ _ _)
   | (with_reducible exact ih1 _ _ _ _ _ _ _ _)
   | (with_reducible exact pochoirref02_norm.mono _ _ _)
   | (with_reducible exact LeO.refl _)
   | (with_reducible exact LeO.none _)
   | (with_reducible refine LeO.ite ?_ ?_)
   | (with_reducible refine LeO.bind ?_ (fun _ => ?_))
   | exact ih0 _ _ _ _ _ _
   | exact ih1 _ _ _ _ _ _ _ _
   | exact pochoirref02_norm.mono _ _ _
   | exact LeO.none _
   | refine LeO.ite ?_ ?_
   | refine LeO.bind ?_ (fun _ => ?_)
  ·intro y0 y1 y2 y3 y4 y5 y6 y7
   unfold pochoirref02_Mul.l1
   repeat' first
   | (with_reducible exact ih0 _ _ _ _ _ _)
   | (with_reducible exact ih1 _ _ _ _ _ _ _ _)
   | (with_reducible exact pochoirref02_norm.mono _ _ _)
   | (with_reducible exact LeO.refl _)
   | (with_reducible exact LeO.none _)
   | (with_reducible refine LeO.ite ?_ ?_)
   | (with_reducible refine LeO.bind ?_ (fun _ => ?_))
   | exact ih0 _ _ _ _ _ _
   | exact ih1 _ _ _ _ _ _ _ _
   | exact pochoirref02_norm.mono _ _ _
   | exact LeO.none _
   | refine LeO.ite ?_ ?_
   | refine LeO.bind ?_ (fun _ => ?_)
theorem pochoirref02_Mul.mono : ∀ a0 a1 a2 a3 k, LeO (pochoirref02_Mul.f k a0 a1 a2 a3) (pochoirref02_Mul.f (k + 1) a0 a1 a2 a3) := by
 intro a0 a1 a2 a3 k
 obtain ⟨ih0, ih1⟩ := pochoirref02_Mul.mono_l k
 unfold pochoirref02_Mul.f
 repeat' first
   | (with_reducible exact ih0 _ _ _ _ _ _)
   | (with_reducible exact ih1 _ _ _ _ _ _ _ _)
   | (with_reducible exact pochoirref02_norm.mono _ _ _)
   | (with_reducible exact LeO.refl _)
   | (with_reducible exact LeO.none _)
   | (with_reducible refine LeO.ite ?_ ?_)
   | (with_reducible refine LeO.bind ?_ (fun _ => ?_))
   | exact ih0 _ _ _ _ _ _
   | exact ih1 _ _ _ _ _ _ _ _
   | exact pochoirref02_norm.mono _ _ _
   | exact LeO.none _
   | refine LeO.ite ?_ ?_
   | refine LeO.bind ?_ (fun _ => ?_)
set_option maxHeartbeats 8000000 in
set_option maxRecDepth 100000 in
theorem pochoirref02_Mul.calls (k : Nat) (a0_0 : Bool) (A0_1 : Option Addr) (c0_1 : Nat) (l0_1 : List Int) (a1_0 : Bool) (A1_1 : Option Addr) (c1_1 : Nat) (l1_1 : List Int) (r1 : Bool) (r2 : List Int) (w : World) (hr0_1 : Kd.C (Kd.int .u64) w A0_1 l0_1.length l0_1) (hc0_1 : l0_1.length ≤ c0_1) (hr1_1 : Kd.C (Kd.int .u64) w A1_1 l1_1.length l1_1) (hc1_1 : l1_1.length ≤ c1_1) (h : pochoirref02_Mul.f k a0_0 l0_1 a1_0 l1_1 = some (r1, r2)) :
  Calls Tryd.prog 53 #[.agg #[.bool a0_0, .slice A0_1 l0_1.length c0_1], .agg #[.bool a1_0, .slice A1_1 l1_1.length c1_1]] w fun e w' => ∃ v1_ : Value, e = .returned (.agg #[.bool r1, v1_]) ∧ Kd.R (Kd.int .u64) 45 w' w.heap.size (fun _ => True) v1_ r2 ∧ Below w.heap.size w w' := by
 have hu61 := Tryd.underlying61
 have HR0_1 := Aside0.mk hr0_1
 have HC0_1 := Aside0.mk hc0_1
 clear hr0_1 hc0_1
 have HR1_1 := Aside0.mk hr1_1
 have HC1_1 := Aside0.mk hc1_1
 clear hr1_1 hc1_1
 have HB := Aside0.mk (Below.refl w.heap.size w)
 have H : (if 0 ≤ (wrap64 ((wrap64 ((l0_1.length : Int) + (l1_1.length : Int))) + 1)) then (if (wrap64 ((wrap64 ((l0_1.length : Int) + (l1_1.length : Int))) + 1) : Int).toNat ≤ 35184372088832 then (pochoirref02_Mul.l0 k (List.replicate (wrap64 ((wrap64 ((l0_1.length : Int) + (l1_1.length : Int))) + 1) : Int).toNat 0) 0 a0_0 l0_1 a1_0 l1_1) else (none)) else (none)) = some (r1, r2) := h
 clear h
 obtain ⟨ji3, hji3⟩ : ∃ j_ : Int, (wrap64 ((wrap64 ((l0_1.length : Int) + (l1_1.length : Int))) + 1)) = j_ := ⟨_, rfl⟩
 replace H : (if 0 ≤ (ji3) then (if (ji3 : Int).toNat ≤ 35184372088832 then (pochoirref02_Mul.l0 k (List.replicate (ji3 : Int).toNat 0) 0 a0_0 l0_1 a1_0 l1_1) else (none)) else (none)) = some (r1, r2) := by first | (rw [hji3] at H; exact H) | (simp only [hji3] at H ⊢; exact H)
 have hji3w : (IntKind.i64.wrap ((wrap64 ((l0_1.length : Int) + (l1_1.length : Int))) + 1)) = ji3 := (i64_w _).trans hji3
 by_cases c4 : 0 ≤ (ji3)
 ·rw [if_pos c4] at H
  have c4b0 := eq_true c4
  have c4b1 : decide (0 ≤ (ji3)) = true := decide_eq_true c4
  clear c4
  by_cases c5 : (ji3 : Int).toNat ≤ 35184372088832
  ·rw [if_pos c5] at H
   have c5b0 := eq_true c5
   have c5b1 : decide ((ji3 : Int).toNat ≤ 35184372088832) = true := decide_eq_true c5
   clear c5
   obtain ⟨y391, hy391⟩ : ∃ y_ : List Int, y_ = (List.replicate (ji3 : Int).toNat 0) := ⟨_, rfl⟩
   replace H : (pochoirref02_Mul.l0 k y391 0 a0_0 l0_1 a1_0 l1_1) = some (r1, r2) := by first | (rw [hy391]; with_reducible exact H) | (have H2_ := (Option.bind_some _ _).symm.trans H; rw [hy391]; with_reducible exact H2_) | (have H2_ := (Option.bind_some _ _).symm.trans H; with_reducible exact H2_) | with_reducible exact H | (rw [hy391]; exact H) | exact H
   have Ny391 := Aside0.mk hy391
   clear hy391
   have H' := Aside0.mk H
   clear H
   go_enter Tryd.func53, Tryd.ntmps53
   go_wp2_with (first | ((with_reducible refine gate_dst (N := 2) rfl ?_); refine box_event ?hg (N := 2) ?hd (cs := #[.bool a0_0, .slice A0_1 l0_1.length c0_1]) (t := 61) ?hr ?_; (case hd => rfl); (case hg => rfl); (case hr => exact gs_); intro gb388 hg w6 hbox hb; have BK388 := Aside0.mk (hbox); have GW388 := Aside0.mk ((by rw [hg]; exact (below_size (bl HB)) : w.heap.size ≤ gb388)); have GE388 := Aside0.mk ((by rw [hg]; exact (below_size (bl HB)) : w.heap.size ≤ gb388)); replace HB := Aside0.mk (below_step (bl HB) hb); clear hb hbox hg) | ((with_reducible refine gate_dst (N := 3) rfl ?_); refine box_event ?hg (N := 3) ?hd (cs := #[.bool a1_0, .slice A1_1 l1_1.length c1_1]) (t := 61) ?hr ?_; (case hd => rfl); (case hg => rfl); (case hr => exact gs_); intro gb389 hg w7 hbox hb; have BK389 := Aside0.mk (hbox); have GW389 := Aside0.mk ((by rw [hg]; exact (below_size (bl HB)) : w.heap.size ≤ gb389)); have GE389 := Aside0.mk ((by rw [hg]; exact (below_size (bl HB)) : w.heap.size ≤ gb389)); replace HB := Aside0.mk (below_step (bl HB) hb); have NB388_389 := Aside0.mk ((by rw [hg]; exact Nat.ne_of_lt (blk_lt (kb BK388)) : gb388 ≠ gb389)); have NB389_388 := Aside0.mk ((by rw [hg]; exact Nat.ne_of_gt (blk_lt (kb BK388)) : gb389 ≠ gb388)); replace BK388 := Aside0.mk (blk_below (kb BK388) hb); clear hb hbox hg) | ((with_reducible refine gate_dst (N := 4) rfl ?_); refine box_event ?hg (N := 4) ?hd (cs := #[.bool false, .slice none 0 0]) (t := 61) ?hr ?_; (case hd => rfl); (case hg => rfl); (case hr => exact gs_); intro gb390 hg w8 hbox hb; have BK390 := Aside0.mk (hbox); have GW390 := Aside0.mk ((by rw [hg]; exact (below_size (bl HB)) : w.heap.size ≤ gb390)); have GE390 := Aside0.mk ((by rw [hg]; exact (below_size (bl HB)) : w.heap.size ≤ gb390)); replace HB := Aside0.mk (below_step (bl HB) hb); have NB388_390 := Aside0.mk ((by rw [hg]; exact Nat.ne_of_lt (blk_lt (kb BK388)) : gb388 ≠ gb390)); have NB390_388 := Aside0.mk ((by rw [hg]; exact Nat.ne_of_gt (blk_lt (kb BK388)) : gb390 ≠ gb388)); replace BK388 := Aside0.mk (blk_below (kb BK388) hb); have NB389_390 := Aside0.mk ((by rw [hg]; exact Nat.ne_of_lt (blk_lt (kb BK389)) : gb389 ≠ gb390)); have NB390_389 := Aside0.mk ((by rw [hg]; exact Nat.ne_of_gt (blk_lt (kb BK389)) : gb390 ≠ gb389)); replace BK389 := Aside0.mk (blk_below (kb BK389) hb); clear hb hbox hg; have hnb9 := NB388_389.out; have hnc9 := NB389_388.out; have hnb10 := NB388_390.out; have hnc10 := NB390_388.out; have hcz11_0 := ck BK388 0; have hcz11_1 := ck BK388 1; have hfz11_0 := blk_frozen BK388.out 0; have hfz11_1 := blk_frozen BK388.out 1; have hnb12 := NB389_390.out; have hnc12 := NB390_389.out; have hcz13_0 := ck BK389 0; have hcz13_1 := ck BK389 1; have hfz13_0 := blk_frozen BK389.out 0; have hfz13_1 := blk_frozen BK389.out 1) | ((with_reducible refine gate_dst (N := 18) rfl ?_); refine Kd.R_make (Kd.int .u64) _ 45 rfl (N := 18) rfl 59 _ _ rfl ji3 rfl rfl Tryd.underlying59 (.int .u64 0) 8 info45 rfl (by decide) (by omega) 0 (ok := fun _ => True) (okp := fun _ => True) rfl (fun _ hk => hk) trivial (of_decide_eq_true (by first | (with_reducible assumption) | assumption)) (Nat.le_trans (Nat.mul_le_mul_right _ (of_decide_eq_true (by first | (with_reducible assumption) | assumption) : ji3.toNat ≤ 35184372088832)) (by omega)) (Below.refl _ _) (Nat.le_refl _) ?_; intro v392 w14 ho15 hb hg_ hnew_; clear hg_ hnew_; (first | rw [← Ny391.out] at ho15 | (simp only [Int.reduceToNat] at ho15; rw [← Ny391.out] at ho15)); have HO393 := Aside0.mk (Kd.R_lower ho15 (below_size (bl HB))); replace BK388 := Aside0.mk (blk_below (kb BK388) hb); replace BK389 := Aside0.mk (blk_below (kb BK389) hb); replace BK390 := Aside0.mk (blk_below (kb BK390) hb); replace HB := Aside0.mk (below_step (bl HB) hb); clear hb ho15))
   repeat (go_quiet (first | ((with_reducible refine gate_dst (N := 2) rfl ?_); refine box_event ?hg (N := 2) ?hd (cs := #[.bool a0_0, .slice A0_1 l0_1.length c0_1]) (t := 61) ?hr ?_; (case hd => rfl); (case hg => rfl); (case hr => exact gs_); intro gb388 hg w6 hbox hb; have BK388 := Aside0.mk (hbox); have GW388 := Aside0.mk ((by rw [hg]; exact (below_size (bl HB)) : w.heap.size ≤ gb388)); have GE388 := Aside0.mk ((by rw [hg]; exact (below_size (bl HB)) : w.heap.size ≤ gb388)); replace HB := Aside0.mk (below_step (bl HB) hb); clear hb hbox hg) | ((with_reducible refine gate_dst (N := 3) rfl ?_); refine box_event ?hg (N := 3) ?hd (cs := #[.bool a1_0, .slice A1_1 l1_1.length c1_1]) (t := 61) ?hr ?_; (case hd => rfl); (case hg => rfl); (case hr => exact gs_); intro gb389 hg w7 hbox hb; have BK389 := Aside0.mk (hbox); have GW389 := Aside0.mk ((by rw [hg]; exact (below_size (bl HB)) : w.heap.size ≤ gb389)); have GE389 := Aside0.mk ((by rw [hg]; exact (below_size (bl HB)) : w.heap.size ≤ gb389)); replace HB := Aside0.mk (below_step (bl HB) hb); have NB388_389 := Aside0.mk ((by rw [hg]; exact Nat.ne_of_lt (blk_lt (kb BK388)) : gb388 ≠ gb389)); have NB389_388 := Aside0.mk ((by rw [hg]; exact Nat.ne_of_gt (blk_lt (kb BK388)) : gb389 ≠ gb388)); replace BK388 := Aside0.mk (blk_below (kb BK388) hb); clear hb hbox hg) | ((with_reducible refine gate_dst (N := 4) rfl ?_); refine box_event ?hg (N := 4) ?hd (cs := #[.bool false, .slice none 0 0]) (t := 61) ?hr ?_; (case hd => rfl); (case hg => rfl); (case hr => exact gs_); intro gb390 hg w8 hbox hb; have BK390 := Aside0.mk (hbox); have GW390 := Aside0.mk ((by rw [hg]; exact (below_size (bl HB)) : w.heap.size ≤ gb390)); have GE390 := Aside0.mk ((by rw [hg]; exact (below_size (bl HB)) : w.heap.size ≤ gb390)); replace HB := Aside0.mk (below_step (bl HB) hb); have NB388_390 := Aside0.mk ((by rw [hg]; exact Nat.ne_of_lt (blk_lt (kb BK388)) : gb388 ≠ gb390)); have NB390_388 := Aside0.mk ((by rw [hg]; exact Nat.ne_of_gt (blk_lt (kb BK388)) : gb390 ≠ gb388)); replace BK388 := Aside0.mk (blk_below (kb BK388) hb); have NB389_390 := Aside0.mk ((by rw [hg]; exact Nat.ne_of_lt (blk_lt (kb BK389)) : gb389 ≠ gb390)); have NB390_389 := Aside0.mk ((by rw [hg]; exact Nat.ne_of_gt (blk_lt (kb BK389)) : gb390 ≠ gb389)); replace BK389 := Aside0.mk (blk_below (kb BK389) hb); clear hb hbox hg; have hnb9 := NB388_389.out; have hnc9 := NB389_388.out; have hnb10 := NB388_390.out; have hnc10 := NB390_388.out; have hcz11_0 := ck BK388 0; have hcz11_1 := ck BK388 1; have hfz11_0 := blk_frozen BK388.out 0; have hfz11_1 := blk_frozen BK388.out 1; have hnb12 := NB389_390.out; have hnc12 := NB390_389.out; have hcz13_0 := ck BK389 0; have hcz13_1 := ck BK389 1; have hfz13_0 := blk_frozen BK389.out 0; have hfz13_1 := blk_frozen BK389.out 1) | ((with_reducible refine gate_dst (N := 18) rfl ?_); refine Kd.R_make (Kd.int .u64) _ 45 rfl (N := 18) rfl 59 _ _ rfl ji3 rfl rfl Tryd.underlying59 (.int .u64 0) 8 info45 rfl (by decide) (by omega) 0 (ok := fun _ => True) (okp := fun _ => True) rfl (fun _ hk => hk) trivial (of_decide_eq_true (by first | (with_reducible assumption) | assumption)) (Nat.le_trans (Nat.mul_le_mul_right _ (of_decide_eq_true (by first | (with_reducible assumption) | assumption) : ji3.toNat ≤ 35184372088832)) (by omega)) (Below.refl _ _) (Nat.le_refl _) ?_; intro v392 w14 ho15 hb hg_ hnew_; clear hg_ hnew_; (first | rw [← Ny391.out] at ho15 | (simp only [Int.reduceToNat] at ho15; rw [← Ny391.out] at ho15)); have HO393 := Aside0.mk (Kd.R_lower ho15 (below_size (bl HB))); replace BK388 := Aside0.mk (blk_below (kb BK388) hb); replace BK389 := Aside0.mk (blk_below (kb BK389) hb); replace BK390 := Aside0.mk (blk_below (kb BK390) hb); replace HB := Aside0.mk (below_step (bl HB) hb); clear hb ho15)); try go_wp2_with (first | ((with_reducible refine gate_dst (N := 2) rfl ?_); refine box_event ?hg (N := 2) ?hd (cs := #[.bool a0_0, .slice A0_1 l0_1.length c0_1]) (t := 61) ?hr ?_; (case hd => rfl); (case hg => rfl); (case hr => exact gs_); intro gb388 hg w6 hbox hb; have BK388 := Aside0.mk (hbox); have GW388 := Aside0.mk ((by rw [hg]; exact (below_size (bl HB)) : w.heap.size ≤ gb388)); have GE388 := Aside0.mk ((by rw [hg]; exact (below_size (bl HB)) : w.heap.size ≤ gb388)); replace HB := Aside0.mk (below_step (bl HB) hb); clear hb hbox hg) | ((with_reducible refine gate_dst (N := 3) rfl ?_); refine box_event ?hg (N := 3) ?hd (cs := #[.bool a1_0, .slice A1_1 l1_1.length c1_1]) (t := 61) ?hr ?_; (case hd => rfl); (case hg => rfl); (case hr => exact gs_); intro gb389 hg w7 hbox hb; have BK389 := Aside0.mk (hbox); have GW389 := Aside0.mk ((by rw [hg]; exact (below_size (bl HB)) : w.heap.size ≤ gb389)); have GE389 := Aside0.mk ((by rw [hg]; exact (below_size (bl HB)) : w.heap.size ≤ gb389)); replace HB := Aside0.mk (below_step (bl HB) hb); have NB388_389 := Aside0.mk ((by rw [hg]; exact Nat.ne_of_lt (blk_lt (kb BK388)) : gb388 ≠ gb389)); have NB389_388 := Aside0.mk ((by rw [hg]; exact Nat.ne_of_gt (blk_lt (kb BK388)) : gb389 ≠ gb388)); replace BK388 := Aside0.mk (blk_below (kb BK388) hb); clear hb hbox hg) | ((with_reducible refine gate_dst (N := 4) rfl ?_); refine box_event ?hg (N := 4) ?hd (cs := #[.bool false, .slice none 0 0]) (t := 61) ?hr ?_; (case hd => rfl); (case hg => rfl); (case hr => exact gs_); intro gb390 hg w8 hbox hb; have BK390 := Aside0.mk (hbox); have GW390 := Aside0.mk ((by rw [hg]; exact (below_size (bl HB)) : w.heap.size ≤ gb390)); have GE390 := Aside0.mk ((by rw [hg]; exact (below_size (bl HB)) : w.heap.size ≤ gb390)); replace HB := Aside0.mk (below_step (bl HB) hb); have NB388_390 := Aside0.mk ((by rw [hg]; exact Nat.ne_of_lt (blk_lt (kb BK388)) : gb388 ≠ gb390)); have NB390_388 := Aside0.mk ((by rw [hg]; exact Nat.ne_of_gt (blk_lt (kb BK388)) : gb390 ≠ gb388)); replace BK388 := Aside0.mk (blk_below (kb BK388) hb); have NB389_390 := Aside0.mk ((by rw [hg]; exact Nat.ne_of_lt (blk_lt (kb BK389)) : gb389 ≠ gb390)); have NB390_389 := Aside0.mk ((by rw [hg]; exact Nat.ne_of_gt (blk_lt (kb BK389)) : gb390 ≠ gb389)); replace BK389 := Aside0.mk (blk_below (kb BK389) hb); clear hb hbox hg; have hnb9 := NB388_389.out; have hnc9 := NB389_388.out; have hnb10 := NB388_390.out; have hnc10 := NB390_388.out; have hcz11_0 := ck BK388 0; have hcz11_1 := ck BK388 1; have hfz11_0 := blk_frozen BK388.out 0; have hfz11_1 := blk_frozen BK388.out 1; have hnb12 := NB389_390.out; have hnc12 := NB390_389.out; have hcz13_0 := ck BK389 0; have hcz13_1 := ck BK389 1; have hfz13_0 := blk_frozen BK389.out 0; have hfz13_1 := blk_frozen BK389.out 1) | ((with_reducible refine gate_dst (N := 18) rfl ?_); refine Kd.R_make (Kd.int .u64) _ 45 rfl (N := 18) rfl 59 _ _ rfl ji3 rfl rfl Tryd.underlying59 (.int .u64 0) 8 info45 rfl (by decide) (by omega) 0 (ok := fun _ => True) (okp := fun _ => True) rfl (fun _ hk => hk) trivial (of_decide_eq_true (by first | (with_reducible assumption) | assumption)) (Nat.le_trans (Nat.mul_le_mul_right _ (of_decide_eq_true (by first | (with_reducible assumption) | assumption) : ji3.toNat ≤ 35184372088832)) (by omega)) (Below.refl _ _) (Nat.le_refl _) ?_; intro v392 w14 ho15 hb hg_ hnew_; clear hg_ hnew_; (first | rw [← Ny391.out] at ho15 | (simp only [Int.reduceToNat] at ho15; rw [← Ny391.out] at ho15)); have HO393 := Aside0.mk (Kd.R_lower ho15 (below_size (bl HB))); replace BK388 := Aside0.mk (blk_below (kb BK388) hb); replace BK389 := Aside0.mk (blk_below (kb BK389) hb); replace BK390 := Aside0.mk (blk_below (kb BK390) hb); replace HB := Aside0.mk (below_step (bl HB) hb); clear hb ho15)))
   go_loopg [6] k (fun kq v6 w' => ∃ (x5_1 : List Int) (x6_1 : Int), v6 = .int .i64 x6_1 ∧ Aside0 (pochoirref02_Mul.l0 kq x5_1 x6_1 a0_0 l0_1 a1_0 l1_1 = some (r1, r2)) ∧ Aside0 (kq ≤ k) ∧ Aside0 (Kd.R (Kd.int .u64) 45 w' w.heap.size (fun _ => True) v392 x5_1) ∧ Aside0 (w'.heap[gb388]? = some (.cells #[.bool a0_0, (.slice A0_1 l0_1.length c0_1)] 61 (0, 0))) ∧ Aside0 (w'.heap[gb389]? = some (.cells #[.bool a1_0, (.slice A1_1 l1_1.length c1_1)] 61 (0, 0))) ∧ Aside0 (w'.heap[gb390]? = some (.cells #[.bool false, (.slice none 0 0)] 61 (0, 0))) ∧ Aside0 (Below w.heap.size w w'))
   case atStart => exact ⟨(y391), (0), (by first | rfl | (simp; done) | (simp [*]; done)), H', ⟨Nat.le_refl _⟩, ⟨by (with_reducible repeat (first | apply Kd.R_alloc | apply Kd.R_drewN | apply Kd.R_drew)); exact HO393.out⟩, ⟨kb BK388⟩, ⟨kb BK389⟩, ⟨kb BK390⟩, ⟨bl HB⟩⟩
   case round =>
    clear H'
    try clear c1
    try clear p2
    try clear c4
    try clear c4b0
    try clear c4b1
    try clear c5
    try clear c5b0
    try clear c5b1
    try clear p6
    try clear c9
    try clear c10
    try clear c12
    try clear hcz11_0
    try clear hcz11_1
    try clear hcz13_0
    try clear hcz13_1
    try clear hfz11_0
    try clear hfz11_1
    try clear hfz13_0
    try clear hfz13_1
    obtain ⟨x5_1, x6_1, rfl, HA, HK1, HO_5, BK388, BK389, BK390, HB⟩ := hrel
    cases gk with
    | zero => exact absurd HA.out (by simp [pochoirref02_Mul.l0])
    | succ k1 =>
     have H := HA.out
     clear HA
     simp only [pochoirref02_Mul.l0] at H
     by_cases c16 : x6_1 < (l0_1.length : Int)
     ·rw [if_pos c16] at H
      have c16b0 : decide (x6_1 < (l0_1.length : Int)) = true := decide_eq_true c16
      clear c16
      have H' := Aside0.mk H
      clear H
      have hnb17 := NB388_389.out
      have hnc17 := NB389_388.out
      have hnb18 := NB388_390.out
      have hnc18 := NB390_388.out
      have hcz19_0 := ck BK388 0
      have hcz19_1 := ck BK388 1
      have hfz19_0 := blk_frozen BK388.out 0
      have hfz19_1 := blk_frozen BK388.out 1
      go_wp2
      repeat (go_quiet (fail); try go_wp2)
      go_loopg [7, 8] k1 (fun kq v7 v8 w' => ∃ (x5_2 : List Int) (x7_2 : Int) (x8_2 : Int), v7 = .int .u64 x7_2 ∧ v8 = .int .i64 x8_2 ∧ Aside0 (pochoirref02_Mul.l1 kq x5_2 x6_1 x7_2 x8_2 a0_0 l0_1 a1_0 l1_1 = some (r1, r2)) ∧ Aside0 (kq ≤ k1) ∧ Aside0 (Kd.R (Kd.int .u64) 45 w' w.heap.size (fun _ => True) v392 x5_2) ∧ Aside0 (w'.heap[gb388]? = some (.cells #[.bool a0_0, (.slice A0_1 l0_1.length c0_1)] 61 (0, 0))) ∧ Aside0 (w'.heap[gb389]? = some (.cells #[.bool a1_0, (.slice A1_1 l1_1.length c1_1)] 61 (0, 0))) ∧ Aside0 (w'.heap[gb390]? = some (.cells #[.bool false, (.slice none 0 0)] 61 (0, 0))) ∧ Aside0 (Below w.heap.size w w'))
      case atStart => exact ⟨(x5_1), (0), (0), (by first | rfl | (simp; done) | (simp [*]; done)), (by first | rfl | (simp; done) | (simp [*]; done)), H', ⟨Nat.le_refl _⟩, ⟨by (with_reducible repeat (first | apply Kd.R_alloc | apply Kd.R_drewN | apply Kd.R_drew)); exact HO_5.out⟩, ⟨kb BK388⟩, ⟨kb BK389⟩, ⟨kb BK390⟩, ⟨bl HB⟩⟩
      case round =>
       clear H'
       try clear c1
       try clear p2
       try clear c4
       try clear c4b0
       try clear c4b1
       try clear c5
       try clear c5b0
       try clear c5b1
       try clear p6
       try clear c9
       try clear c10
       try clear c12
       try clear c16
       try clear c16b0
       try clear c17
       try clear c18
       try clear hcz11_0
       try clear hcz11_1
       try clear hcz13_0
       try clear hcz13_1
       try clear hcz19_0
       try clear hcz19_1
       try clear hfz11_0
       try clear hfz11_1
       try clear hfz13_0
       try clear hfz13_1
       try clear hfz19_0
       try clear hfz19_1
       try clear p2
       try clear p6
       obtain ⟨x5_2, x7_2, x8_2, rfl, rfl, HA, HK2, HO_5, BK388, BK389, BK390, HB⟩ := hrel
       cases gk with
       | zero => exact absurd HA.out (by simp [pochoirref02_Mul.l1])
       | succ k2 =>
        have H := HA.out
        clear HA
        simp only [pochoirref02_Mul.l1] at H
        by_cases c20 : x8_2 < (l1_1.length : Int)
        ·rw [if_pos c20] at H
         have c20b0 : decide (x8_2 < (l1_1.length : Int)) = true := decide_eq_true c20
         clear c20
         obtain ⟨ji21, hji21⟩ : ∃ j_ : Int, (wrap64 (x6_1 + x8_2)) = j_ := ⟨_, rfl⟩
         replace H : (if 0 ≤ (ji21) then (if (ji21) < (x5_2.length : Int) then (if 0 ≤ x6_1 then (if x6_1 < (l0_1.length : Int) then ((pochoirref02_at.f l1_1 x8_2).bind fun t400 => (pochoirref02_Mul.l1 k2 (x5_2.set ((ji21) : Int).toNat (Int.tmod (IntKind.u64.wrap ((IntKind.u64.wrap ((rd x5_2 (ji21)) + (IntKind.u64.wrap ((rd l0_1 x6_1) * t400)))) + x7_2)) 65536)) x6_1 (IntKind.u64.wrap (Int.tdiv (IntKind.u64.wrap ((IntKind.u64.wrap ((rd x5_2 (ji21)) + (IntKind.u64.wrap ((rd l0_1 x6_1) * t400)))) + x7_2)) 65536)) (wrap64 (x8_2 + 1)) a0_0 l0_1 a1_0 l1_1)) else (none)) else (none)) else (none)) else (none)) = some (r1, r2) := by first | (rw [hji21] at H; exact H) | (simp only [hji21] at H ⊢; exact H)
         have hji21w : (IntKind.i64.wrap (x6_1 + x8_2)) = ji21 := (i64_w _).trans hji21
         by_cases c22 : 0 ≤ (ji21)
         ·rw [if_pos c22] at H
          have c22b0 : decide (0 ≤ (ji21)) = true := decide_eq_true c22
          clear c22
          by_cases c23 : (ji21) < (x5_2.length : Int)
          ·rw [if_pos c23] at H
           have c23b0 : decide ((ji21) < (x5_2.length : Int)) = true := decide_eq_true c23
           clear c23
           by_cases c24 : 0 ≤ x6_1
           ·rw [if_pos c24] at H
            have c24b0 : decide (0 ≤ x6_1) = true := decide_eq_true c24
            clear c24
            by_cases c25 : x6_1 < (l0_1.length : Int)
            ·rw [if_pos c25] at H
             have c25b0 : decide (x6_1 < (l0_1.length : Int)) = true := decide_eq_true c25
             clear c25
             replace H := Option.bind_eq_some_iff.mp H
             obtain ⟨t400, A260, H⟩ := H
             replace H : (pochoirref02_Mul.l1 k2 (x5_2.set ((ji21) : Int).toNat (Int.tmod (IntKind.u64.wrap ((IntKind.u64.wrap ((rd x5_2 (ji21)) + (IntKind.u64.wrap ((rd l0_1 x6_1) * t400)))) + x7_2)) 65536)) x6_1 (IntKind.u64.wrap (Int.tdiv (IntKind.u64.wrap ((IntKind.u64.wrap ((rd x5_2 (ji21)) + (IntKind.u64.wrap ((rd l0_1 x6_1) * t400)))) + x7_2)) 65536)) (wrap64 (x8_2 + 1)) a0_0 l0_1 a1_0 l1_1) = some (r1, r2) := H
             have A26 := Aside0.mk A260
             clear A260
             obtain ⟨y401, hy401⟩ : ∃ y_ : List Int, y_ = (x5_2.set ((ji21) : Int).toNat (Int.tmod (IntKind.u64.wrap ((IntKind.u64.wrap ((rd x5_2 (ji21)) + (IntKind.u64.wrap ((rd l0_1 x6_1) * t400)))) + x7_2)) 65536)) := ⟨_, rfl⟩
             replace H : (pochoirref02_Mul.l1 k2 y401 x6_1 (IntKind.u64.wrap (Int.tdiv (IntKind.u64.wrap ((IntKind.u64.wrap ((rd x5_2 (ji21)) + (IntKind.u64.wrap ((rd l0_1 x6_1) * t400)))) + x7_2)) 65536)) (wrap64 (x8_2 + 1)) a0_0 l0_1 a1_0 l1_1) = some (r1, r2) := by first | (rw [hy401]; with_reducible exact H) | (have H2_ := (Option.bind_some _ _).symm.trans H; rw [hy401]; with_reducible exact H2_) | (have H2_ := (Option.bind_some _ _).symm.trans H; with_reducible exact H2_) | with_reducible exact H | (rw [hy401]; exact H) | exact H
             have Ny401 := Aside0.mk hy401
             clear hy401
             have H' := Aside0.mk H
             clear H
             have hnb28 := NB389_388.out
             have hnc28 := NB388_389.out
             have hnb29 := NB389_390.out
             have hnc29 := NB390_389.out
             have hcz30_0 := ck BK389 0
             have hcz30_1 := ck BK389 1
             have hfz30_0 := blk_frozen BK389.out 0
             have hfz30_1 := blk_frozen BK389.out 1
             obtain ⟨Ao31, co31, eo31⟩ := Kd.R_slice HO_5.out
             subst eo31
             have p398 : 0 ≤ ((ji21) : Int) := of_decide_eq_true (by first | (with_reducible assumption) | assumption)
             have q398 : (ji21) < (x5_2.length : Int) := of_decide_eq_true (by first | (with_reducible assumption) | assumption)
             obtain ⟨ad398, e398, hx398_0⟩ := Kd.at_int (Kd.R_reads' HO_5.out).2.2 (ji21) p398 q398
             cases e398
             replace p398 := eq_true p398
             replace q398 := eq_true q398
             have hnb32 := NB388_390.out
             have hnc32 := NB390_388.out
             have hcz33_0 := ck BK388 0
             have hcz33_1 := ck BK388 1
             have hfz33_0 := blk_frozen BK388.out 0
             have hfz33_1 := blk_frozen BK388.out 1
             have p399 : 0 ≤ (x6_1 : Int) := of_decide_eq_true (by first | (with_reducible assumption) | assumption)
             have q399 : x6_1 < (l0_1.length : Int) := of_decide_eq_true (by first | (with_reducible assumption) | assumption)
             obtain ⟨ad399, e399, hx399_0⟩ := Kd.at_int HR0_1.out x6_1 p399 q399
             cases e399
             replace hx399_0 := (HB.out.cell (World.block_lt_of_cell? w _ hx399_0)).trans hx399_0
             replace p399 := eq_true p399
             replace q399 := eq_true q399
             go_wp2_with (first | (go_at_call 72; (with_reducible refine (pochoirref02_at.calls _ _ l1_1 x8_2 t400 _ ?side1 ?side2 A26.out).mono ?_); (case side1 => repeat (first | exact (Kd.C_below HR1_1.out HB.out) | (with_reducible refine Kd.C_alloc ?_ _) | (with_reducible refine Kd.C_drewN ?_ _) | (with_reducible refine Kd.C_drew ?_))); (case side2 => exact HC1_1.out); rintro e w' ⟨rfl, ⟨nd, rfl⟩⟩; (try first | exact ⟨rfl, _, World.drewN_drewN _ _ _⟩ | exact ⟨rfl, _, Eq.trans (World.drewN_drewN _ _ _) (congrArg (World.drewN _) (Nat.add_assoc _ _ _))⟩); have p27 : 0 ≤ ((ji21) : Int) := of_decide_eq_true (by first | (with_reducible assumption) | assumption); have q27 : ((ji21) : Int) < ((x5_2.length : Int) : Int) := of_decide_eq_true (by first | (with_reducible assumption) | assumption); obtain ⟨go27, co27, eo27, gb27, gl27, cl27, HG27⟩ := Kd.R_form HO_5.out (by omega); (first | cases eo27 | (injection eo27 with ea_ en_ ec_; (first | subst ea_ | (injection ea_ with ea_; subst ea_)); subst ec_; clear en_)); have GB27 := Aside0.mk gb27; have GG27 := Aside0.mk HG27; clear gb27 gl27 HG27; (first | simp only [add_plain] at hx398_0 | skip); obtain ⟨hx27_0, hf27_0⟩ := Kd.R_celln 0 HO_5.out ((ji21) : Int) p27 q27; replace p27 := eq_true p27; replace q27 := eq_true q27; obtain ⟨hy34_, hz34_⟩ := Kd.R_celln 0 HO_5.out ((ji21) : Int) (of_decide_eq_true (by first | (with_reducible assumption) | assumption)) (of_decide_eq_true (by first | (with_reducible assumption) | assumption)); have HP34 := Kd.R_putg HO_5.out ((ji21) : Int) (Int.tmod (IntKind.u64.wrap ((IntKind.u64.wrap ((rd x5_2 (ji21)) + (IntKind.u64.wrap ((rd l0_1 x6_1) * t400)))) + x7_2)) 65536)) | ((with_reducible refine gate_store (t := 45) (p := 62) rfl ?_); (try (rw [drewN_self wr]; generalize hq_ : World.drewN wr _ = wr; have n0_ := Aside0.mk (Kd.R_at hq_ HO_5.out); have n1_ := Aside0.mk (blk_at hq_ BK388.out); have n2_ := Aside0.mk (blk_at hq_ BK389.out); have n3_ := Aside0.mk (blk_at hq_ BK390.out); have n4_ := Aside0.mk (below_at hq_ HB.out); clear hq_ HO_5 BK388 BK389 BK390 HB; have HO_5 := n0_; have BK388 := n1_; have BK389 := n2_; have BK390 := n3_; have HB := n4_; clear n0_ n1_ n2_ n3_ n4_; (try (obtain ⟨hy34_, hz34_⟩ := Kd.R_celln 0 HO_5.out ((ji21) : Int) (of_decide_eq_true (by first | (with_reducible assumption) | assumption)) (of_decide_eq_true (by first | (with_reducible assumption) | assumption)))); (try (have HP34 := Kd.R_putg HO_5.out ((ji21) : Int) (Int.tmod (IntKind.u64.wrap ((IntKind.u64.wrap ((rd x5_2 (ji21)) + (IntKind.u64.wrap ((rd l0_1 x6_1) * t400)))) + x7_2)) 65536))))); refine store_event (t := 45) (p := 62) (v := ?vo_w35) (w1 := (wr.setCell ⟨go27, ((ji21) : Int).toNat, none⟩ (.int .u64 (Int.tmod (IntKind.u64.wrap ((IntKind.u64.wrap ((rd x5_2 (ji21)) + (IntKind.u64.wrap ((rd l0_1 x6_1) * t400)))) + x7_2)) 65536)))) ?hg ?ho ?hn ?hr ?_; (case ho => rfl); (case hg => rfl); (case hn => rfl); (case hr => exact gs_); intro w35 hw; have hg : wr.grownBy w35 (some go27) := (by rw [hw]; exact HP34.2); have hp_ : Kd.R (Kd.int .u64) 45 w35 w.heap.size (fun _ => True) (.slice (some ⟨go27, 0, none⟩) x5_2.length co31) y401 := (by rw [hw, Ny401.out]; exact HP34.1); clear HP34; replace BK388 := Aside0.mk (blk_grown (g := gb388) (o := .cells #[.bool a0_0, .slice (some ad399) l0_1.length c0_1] 61 (0, 0)) (kb BK388) hg (Kd.R_ne HO_5.out BK388.out (by decide))); replace BK389 := Aside0.mk (blk_grown (g := gb389) (o := .cells #[.bool a1_0, .slice A1_1 l1_1.length c1_1] 61 (0, 0)) (kb BK389) hg (Kd.R_ne HO_5.out BK389.out (by decide))); replace BK390 := Aside0.mk (blk_grown (g := gb390) (o := .cells #[.bool false, .slice none 0 0] 61 (0, 0)) (kb BK390) hg (Kd.R_ne HO_5.out BK390.out (by decide))); replace HO_5 := Aside0.mk (hp_); replace HB := Aside0.mk ((by rw [hw]; exact below_set (HB.out) GB27.out : Below w.heap.size w w35)); clear hg hw hp_))
             repeat (go_quiet (first | (go_at_call 72; (with_reducible refine (pochoirref02_at.calls _ _ l1_1 x8_2 t400 _ ?side1 ?side2 A26.out).mono ?_); (case side1 => repeat (first | exact (Kd.C_below HR1_1.out HB.out) | (with_reducible refine Kd.C_alloc ?_ _) | (with_reducible refine Kd.C_drewN ?_ _) | (with_reducible refine Kd.C_drew ?_))); (case side2 => exact HC1_1.out); rintro e w' ⟨rfl, ⟨nd, rfl⟩⟩; (try first | exact ⟨rfl, _, World.drewN_drewN _ _ _⟩ | exact ⟨rfl, _, Eq.trans (World.drewN_drewN _ _ _) (congrArg (World.drewN _) (Nat.add_assoc _ _ _))⟩); have p27 : 0 ≤ ((ji21) : Int) := of_decide_eq_true (by first | (with_reducible assumption) | assumption); have q27 : ((ji21) : Int) < ((x5_2.length : Int) : Int) := of_decide_eq_true (by first | (with_reducible assumption) | assumption); obtain ⟨go27, co27, eo27, gb27, gl27, cl27, HG27⟩ := Kd.R_form HO_5.out (by omega); (first | cases eo27 | (injection eo27 with ea_ en_ ec_; (first | subst ea_ | (injection ea_ with ea_; subst ea_)); subst ec_; clear en_)); have GB27 := Aside0.mk gb27; have GG27 := Aside0.mk HG27; clear gb27 gl27 HG27; (first | simp only [add_plain] at hx398_0 | skip); obtain ⟨hx27_0, hf27_0⟩ := Kd.R_celln 0 HO_5.out ((ji21) : Int) p27 q27; replace p27 := eq_true p27; replace q27 := eq_true q27; obtain ⟨hy34_, hz34_⟩ := Kd.R_celln 0 HO_5.out ((ji21) : Int) (of_decide_eq_true (by first | (with_reducible assumption) | assumption)) (of_decide_eq_true (by first | (with_reducible assumption) | assumption)); have HP34 := Kd.R_putg HO_5.out ((ji21) : Int) (Int.tmod (IntKind.u64.wrap ((IntKind.u64.wrap ((rd x5_2 (ji21)) + (IntKind.u64.wrap ((rd l0_1 x6_1) * t400)))) + x7_2)) 65536)) | ((with_reducible refine gate_store (t := 45) (p := 62) rfl ?_); (try (rw [drewN_self wr]; generalize hq_ : World.drewN wr _ = wr; have n0_ := Aside0.mk (Kd.R_at hq_ HO_5.out); have n1_ := Aside0.mk (blk_at hq_ BK388.out); have n2_ := Aside0.mk (blk_at hq_ BK389.out); have n3_ := Aside0.mk (blk_at hq_ BK390.out); have n4_ := Aside0.mk (below_at hq_ HB.out); clear hq_ HO_5 BK388 BK389 BK390 HB; have HO_5 := n0_; have BK388 := n1_; have BK389 := n2_; have BK390 := n3_; have HB := n4_; clear n0_ n1_ n2_ n3_ n4_; (try (obtain ⟨hy34_, hz34_⟩ := Kd.R_celln 0 HO_5.out ((ji21) : Int) (of_decide_eq_true (by first | (with_reducible assumption) | assumption)) (of_decide_eq_true (by first | (with_reducible assumption) | assumption)))); (try (have HP34 := Kd.R_putg HO_5.out ((ji21) : Int) (Int.tmod (IntKind.u64.wrap ((IntKind.u64.wrap ((rd x5_2 (ji21)) + (IntKind.u64.wrap ((rd l0_1 x6_1) * t400)))) + x7_2)) 65536))))); refine store_event (t := 45) (p := 62) (v := ?vo_w35) (w1 := (wr.setCell ⟨go27, ((ji21) : Int).toNat, none⟩ (.int .u64 (Int.tmod (IntKind.u64.wrap ((IntKind.u64.wrap ((rd x5_2 (ji21)) + (IntKind.u64.wrap ((rd l0_1 x6_1) * t400)))) + x7_2)) 65536)))) ?hg ?ho ?hn ?hr ?_; (case ho => rfl); (case hg => rfl); (case hn => rfl); (case hr => exact gs_); intro w35 hw; have hg : wr.grownBy w35 (some go27) := (by rw [hw]; exact HP34.2); have hp_ : Kd.R (Kd.int .u64) 45 w35 w.heap.size (fun _ => True) (.slice (some ⟨go27, 0, none⟩) x5_2.length co31) y401 := (by rw [hw, Ny401.out]; exact HP34.1); clear HP34; replace BK388 := Aside0.mk (blk_grown (g := gb388) (o := .cells #[.bool a0_0, .slice (some ad399) l0_1.length c0_1] 61 (0, 0)) (kb BK388) hg (Kd.R_ne HO_5.out BK388.out (by decide))); replace BK389 := Aside0.mk (blk_grown (g := gb389) (o := .cells #[.bool a1_0, .slice A1_1 l1_1.length c1_1] 61 (0, 0)) (kb BK389) hg (Kd.R_ne HO_5.out BK389.out (by decide))); replace BK390 := Aside0.mk (blk_grown (g := gb390) (o := .cells #[.bool false, .slice none 0 0] 61 (0, 0)) (kb BK390) hg (Kd.R_ne HO_5.out BK390.out (by decide))); replace HO_5 := Aside0.mk (hp_); replace HB := Aside0.mk ((by rw [hw]; exact below_set (HB.out) GB27.out : Below w.heap.size w w35)); clear hg hw hp_)); try go_wp2_with (first | (go_at_call 72; (with_reducible refine (pochoirref02_at.calls _ _ l1_1 x8_2 t400 _ ?side1 ?side2 A26.out).mono ?_); (case side1 => repeat (first | exact (Kd.C_below HR1_1.out HB.out) | (with_reducible refine Kd.C_alloc ?_ _) | (with_reducible refine Kd.C_drewN ?_ _) | (with_reducible refine Kd.C_drew ?_))); (case side2 => exact HC1_1.out); rintro e w' ⟨rfl, ⟨nd, rfl⟩⟩; (try first | exact ⟨rfl, _, World.drewN_drewN _ _ _⟩ | exact ⟨rfl, _, Eq.trans (World.drewN_drewN _ _ _) (congrArg (World.drewN _) (Nat.add_assoc _ _ _))⟩); have p27 : 0 ≤ ((ji21) : Int) := of_decide_eq_true (by first | (with_reducible assumption) | assumption); have q27 : ((ji21) : Int) < ((x5_2.length : Int) : Int) := of_decide_eq_true (by first | (with_reducible assumption) | assumption); obtain ⟨go27, co27, eo27, gb27, gl27, cl27, HG27⟩ := Kd.R_form HO_5.out (by omega); (first | cases eo27 | (injection eo27 with ea_ en_ ec_; (first | subst ea_ | (injection ea_ with ea_; subst ea_)); subst ec_; clear en_)); have GB27 := Aside0.mk gb27; have GG27 := Aside0.mk HG27; clear gb27 gl27 HG27; (first | simp only [add_plain] at hx398_0 | skip); obtain ⟨hx27_0, hf27_0⟩ := Kd.R_celln 0 HO_5.out ((ji21) : Int) p27 q27; replace p27 := eq_true p27; replace q27 := eq_true q27; obtain ⟨hy34_, hz34_⟩ := Kd.R_celln 0 HO_5.out ((ji21) : Int) (of_decide_eq_true (by first | (with_reducible assumption) | assumption)) (of_decide_eq_true (by first | (with_reducible assumption) | assumption)); have HP34 := Kd.R_putg HO_5.out ((ji21) : Int) (Int.tmod (IntKind.u64.wrap ((IntKind.u64.wrap ((rd x5_2 (ji21)) + (IntKind.u64.wrap ((rd l0_1 x6_1) * t400)))) + x7_2)) 65536)) | ((with_reducible refine gate_store (t := 45) (p := 62) rfl ?_); (try (rw [drewN_self wr]; generalize hq_ : World.drewN wr _ = wr; have n0_ := Aside0.mk (Kd.R_at hq_ HO_5.out); have n1_ := Aside0.mk (blk_at hq_ BK388.out); have n2_ := Aside0.mk (blk_at hq_ BK389.out); have n3_ := Aside0.mk (blk_at hq_ BK390.out); have n4_ := Aside0.mk (below_at hq_ HB.out); clear hq_ HO_5 BK388 BK389 BK390 HB; have HO_5 := n0_; have BK388 := n1_; have BK389 := n2_; have BK390 := n3_; have HB := n4_; clear n0_ n1_ n2_ n3_ n4_; (try (obtain ⟨hy34_, hz34_⟩ := Kd.R_celln 0 HO_5.out ((ji21) : Int) (of_decide_eq_true (by first | (with_reducible assumption) | assumption)) (of_decide_eq_true (by first | (with_reducible assumption) | assumption)))); (try (have HP34 := Kd.R_putg HO_5.out ((ji21) : Int) (Int.tmod (IntKind.u64.wrap ((IntKind.u64.wrap ((rd x5_2 (ji21)) + (IntKind.u64.wrap ((rd l0_1 x6_1) * t400)))) + x7_2)) 65536))))); refine store_event (t := 45) (p := 62) (v := ?vo_w35) (w1 := (wr.setCell ⟨go27, ((ji21) : Int).toNat, none⟩ (.int .u64 (Int.tmod (IntKind.u64.wrap ((IntKind.u64.wrap ((rd x5_2 (ji21)) + (IntKind.u64.wrap ((rd l0_1 x6_1) * t400)))) + x7_2)) 65536)))) ?hg ?ho ?hn ?hr ?_; (case ho => rfl); (case hg => rfl); (case hn => rfl); (case hr => exact gs_); intro w35 hw; have hg : wr.grownBy w35 (some go27) := (by rw [hw]; exact HP34.2); have hp_ : Kd.R (Kd.int .u64) 45 w35 w.heap.size (fun _ => True) (.slice (some ⟨go27, 0, none⟩) x5_2.length co31) y401 := (by rw [hw, Ny401.out]; exact HP34.1); clear HP34; replace BK388 := Aside0.mk (blk_grown (g := gb388) (o := .cells #[.bool a0_0, .slice (some ad399) l0_1.length c0_1] 61 (0, 0)) (kb BK388) hg (Kd.R_ne HO_5.out BK388.out (by decide))); replace BK389 := Aside0.mk (blk_grown (g := gb389) (o := .cells #[.bool a1_0, .slice A1_1 l1_1.length c1_1] 61 (0, 0)) (kb BK389) hg (Kd.R_ne HO_5.out BK389.out (by decide))); replace BK390 := Aside0.mk (blk_grown (g := gb390) (o := .cells #[.bool false, .slice none 0 0] 61 (0, 0)) (kb BK390) hg (Kd.R_ne HO_5.out BK390.out (by decide))); replace HO_5 := Aside0.mk (hp_); replace HB := Aside0.mk ((by rw [hw]; exact below_set (HB.out) GB27.out : Below w.heap.size w w35)); clear hg hw hp_)))
             go_roundg k2
             case measure => have := HK1.out; have := HK2.out; omega
             case rel => exact ⟨(y401), (IntKind.u64.wrap (Int.tdiv (IntKind.u64.wrap ((IntKind.u64.wrap ((rd x5_2 (ji21)) + (IntKind.u64.wrap ((rd l0_1 x6_1) * t400)))) + x7_2)) 65536)), (wrap64 (x8_2 + 1)), (by first | rfl | (simp; done) | (simp only [← hji21] <;> (first | rfl | simp)) | (simp [*]; done)), (by first | rfl | (simp; done) | (simp [*]; done)), H', ⟨by have := HK1.out; have := HK2.out; omega⟩, ⟨by (with_reducible repeat (first | apply Kd.R_alloc | apply Kd.R_drewN | apply Kd.R_drew)); exact HO_5.out⟩, ⟨kb BK388⟩, ⟨kb BK389⟩, ⟨kb BK390⟩, ⟨bl HB⟩⟩
            ·rw [if_neg c25] at H
             exact absurd H (by simp)
           ·rw [if_neg c24] at H
            exact absurd H (by simp)
          ·rw [if_neg c23] at H
           exact absurd H (by simp)
         ·rw [if_neg c22] at H
          exact absurd H (by simp)
        ·rw [if_neg c20] at H
         have c20b0 : decide (x8_2 < (l1_1.length : Int)) = false := decide_eq_false c20
         clear c20
         by_cases c36 : x7_2 > 0
         ·rw [if_pos c36] at H
          have c36b0 : decide (0 < x7_2) = true := decide_eq_true c36
          clear c36
          obtain ⟨ji37, hji37⟩ : ∃ j_ : Int, (wrap64 (x6_1 + x8_2)) = j_ := ⟨_, rfl⟩
          replace H : (if 0 ≤ (ji37) then (if (ji37) < (x5_2.length : Int) then (if 0 ≤ x6_1 then (if x6_1 < (l0_1.length : Int) then ((pochoirref02_at.f l1_1 x8_2).bind fun t404 => (pochoirref02_Mul.l1 k2 (x5_2.set ((ji37) : Int).toNat (Int.tmod (IntKind.u64.wrap ((IntKind.u64.wrap ((rd x5_2 (ji37)) + (IntKind.u64.wrap ((rd l0_1 x6_1) * t404)))) + x7_2)) 65536)) x6_1 (IntKind.u64.wrap (Int.tdiv (IntKind.u64.wrap ((IntKind.u64.wrap ((rd x5_2 (ji37)) + (IntKind.u64.wrap ((rd l0_1 x6_1) * t404)))) + x7_2)) 65536)) (wrap64 (x8_2 + 1)) a0_0 l0_1 a1_0 l1_1)) else (none)) else (none)) else (none)) else (none)) = some (r1, r2) := by first | (rw [hji37] at H; exact H) | (simp only [hji37] at H ⊢; exact H)
          have hji37w : (IntKind.i64.wrap (x6_1 + x8_2)) = ji37 := (i64_w _).trans hji37
          by_cases c38 : 0 ≤ (ji37)
          ·rw [if_pos c38] at H
           have c38b0 : decide (0 ≤ (ji37)) = true := decide_eq_true c38
           clear c38
           by_cases c39 : (ji37) < (x5_2.length : Int)
           ·rw [if_pos c39] at H
            have c39b0 : decide ((ji37) < (x5_2.length : Int)) = true := decide_eq_true c39
            clear c39
            by_cases c40 : 0 ≤ x6_1
            ·rw [if_pos c40] at H
             have c40b0 : decide (0 ≤ x6_1) = true := decide_eq_true c40
             clear c40
             by_cases c41 : x6_1 < (l0_1.length : Int)
             ·rw [if_pos c41] at H
              have c41b0 : decide (x6_1 < (l0_1.length : Int)) = true := decide_eq_true c41
              clear c41
              replace H := Option.bind_eq_some_iff.mp H
              obtain ⟨t404, A420, H⟩ := H
              replace H : (pochoirref02_Mul.l1 k2 (x5_2.set ((ji37) : Int).toNat (Int.tmod (IntKind.u64.wrap ((IntKind.u64.wrap ((rd x5_2 (ji37)) + (IntKind.u64.wrap ((rd l0_1 x6_1) * t404)))) + x7_2)) 65536)) x6_1 (IntKind.u64.wrap (Int.tdiv (IntKind.u64.wrap ((IntKind.u64.wrap ((rd x5_2 (ji37)) + (IntKind.u64.wrap ((rd l0_1 x6_1) * t404)))) + x7_2)) 65536)) (wrap64 (x8_2 + 1)) a0_0 l0_1 a1_0 l1_1) = some (r1, r2) := H
              have A42 := Aside0.mk A420
              clear A420
              obtain ⟨y405, hy405⟩ : ∃ y_ : List Int, y_ = (x5_2.set ((ji37) : Int).toNat (Int.tmod (IntKind.u64.wrap ((IntKind.u64.wrap ((rd x5_2 (ji37)) + (IntKind.u64.wrap ((rd l0_1 x6_1) * t404)))) + x7_2)) 65536)) := ⟨_, rfl⟩
              replace H : (pochoirref02_Mul.l1 k2 y405 x6_1 (IntKind.u64.wrap (Int.tdiv (IntKind.u64.wrap ((IntKind.u64.wrap ((rd x5_2 (ji37)) + (IntKind.u64.wrap ((rd l0_1 x6_1) * t404)))) + x7_2)) 65536)) (wrap64 (x8_2 + 1)) a0_0 l0_1 a1_0 l1_1) = some (r1, r2) := by first | (rw [hy405]; with_reducible exact H) | (have H2_ := (Option.bind_some _ _).symm.trans H; rw [hy405]; with_reducible exact H2_) | (have H2_ := (Option.bind_some _ _).symm.trans H; with_reducible exact H2_) | with_reducible exact H | (rw [hy405]; exact H) | exact H
              have Ny405 := Aside0.mk hy405
              clear hy405
              have H' := Aside0.mk H
              clear H
              have hnb44 := NB389_388.out
              have hnc44 := NB388_389.out
              have hnb45 := NB389_390.out
              have hnc45 := NB390_389.out
              have hcz46_0 := ck BK389 0
              have hcz46_1 := ck BK389 1
              have hfz46_0 := blk_frozen BK389.out 0
              have hfz46_1 := blk_frozen BK389.out 1
              obtain ⟨Ao47, co47, eo47⟩ := Kd.R_slice HO_5.out
              subst eo47
              have p402 : 0 ≤ ((ji37) : Int) := of_decide_eq_true (by first | (with_reducible assumption) | assumption)
              have q402 : (ji37) < (x5_2.length : Int) := of_decide_eq_true (by first | (with_reducible assumption) | assumption)
              obtain ⟨ad402, e402, hx402_0⟩ := Kd.at_int (Kd.R_reads' HO_5.out).2.2 (ji37) p402 q402
              cases e402
              replace p402 := eq_true p402
              replace q402 := eq_true q402
              have hnb48 := NB388_390.out
              have hnc48 := NB390_388.out
              have hcz49_0 := ck BK388 0
              have hcz49_1 := ck BK388 1
              have hfz49_0 := blk_frozen BK388.out 0
              have hfz49_1 := blk_frozen BK388.out 1
              have p403 : 0 ≤ (x6_1 : Int) := of_decide_eq_true (by first | (with_reducible assumption) | assumption)
              have q403 : x6_1 < (l0_1.length : Int) := of_decide_eq_true (by first | (with_reducible assumption) | assumption)
              obtain ⟨ad403, e403, hx403_0⟩ := Kd.at_int HR0_1.out x6_1 p403 q403
              cases e403
              replace hx403_0 := (HB.out.cell (World.block_lt_of_cell? w _ hx403_0)).trans hx403_0
              replace p403 := eq_true p403
              replace q403 := eq_true q403
              go_wp2_with (first | (go_at_call 72; (with_reducible refine (pochoirref02_at.calls _ _ l1_1 x8_2 t404 _ ?side1 ?side2 A42.out).mono ?_); (case side1 => repeat (first | exact (Kd.C_below HR1_1.out HB.out) | (with_reducible refine Kd.C_alloc ?_ _) | (with_reducible refine Kd.C_drewN ?_ _) | (with_reducible refine Kd.C_drew ?_))); (case side2 => exact HC1_1.out); rintro e w' ⟨rfl, ⟨nd, rfl⟩⟩; (try first | exact ⟨rfl, _, World.drewN_drewN _ _ _⟩ | exact ⟨rfl, _, Eq.trans (World.drewN_drewN _ _ _) (congrArg (World.drewN _) (Nat.add_assoc _ _ _))⟩); have p43 : 0 ≤ ((ji37) : Int) := of_decide_eq_true (by first | (with_reducible assumption) | assumption); have q43 : ((ji37) : Int) < ((x5_2.length : Int) : Int) := of_decide_eq_true (by first | (with_reducible assumption) | assumption); obtain ⟨go43, co43, eo43, gb43, gl43, cl43, HG43⟩ := Kd.R_form HO_5.out (by omega); (first | cases eo43 | (injection eo43 with ea_ en_ ec_; (first | subst ea_ | (injection ea_ with ea_; subst ea_)); subst ec_; clear en_)); have GB43 := Aside0.mk gb43; have GG43 := Aside0.mk HG43; clear gb43 gl43 HG43; (first | simp only [add_plain] at hx402_0 | skip); obtain ⟨hx43_0, hf43_0⟩ := Kd.R_celln 0 HO_5.out ((ji37) : Int) p43 q43; replace p43 := eq_true p43; replace q43 := eq_true q43; obtain ⟨hy50_, hz50_⟩ := Kd.R_celln 0 HO_5.out ((ji37) : Int) (of_decide_eq_true (by first | (with_reducible assumption) | assumption)) (of_decide_eq_true (by first | (with_reducible assumption) | assumption)); have HP50 := Kd.R_putg HO_5.out ((ji37) : Int) (Int.tmod (IntKind.u64.wrap ((IntKind.u64.wrap ((rd x5_2 (ji37)) + (IntKind.u64.wrap ((rd l0_1 x6_1) * t404)))) + x7_2)) 65536)) | ((with_reducible refine gate_store (t := 45) (p := 62) rfl ?_); (try (rw [drewN_self wr]; generalize hq_ : World.drewN wr _ = wr; have n0_ := Aside0.mk (Kd.R_at hq_ HO_5.out); have n1_ := Aside0.mk (blk_at hq_ BK388.out); have n2_ := Aside0.mk (blk_at hq_ BK389.out); have n3_ := Aside0.mk (blk_at hq_ BK390.out); have n4_ := Aside0.mk (below_at hq_ HB.out); clear hq_ HO_5 BK388 BK389 BK390 HB; have HO_5 := n0_; have BK388 := n1_; have BK389 := n2_; have BK390 := n3_; have HB := n4_; clear n0_ n1_ n2_ n3_ n4_; (try (obtain ⟨hy50_, hz50_⟩ := Kd.R_celln 0 HO_5.out ((ji37) : Int) (of_decide_eq_true (by first | (with_reducible assumption) | assumption)) (of_decide_eq_true (by first | (with_reducible assumption) | assumption)))); (try (have HP50 := Kd.R_putg HO_5.out ((ji37) : Int) (Int.tmod (IntKind.u64.wrap ((IntKind.u64.wrap ((rd x5_2 (ji37)) + (IntKind.u64.wrap ((rd l0_1 x6_1) * t404)))) + x7_2)) 65536))))); refine store_event (t := 45) (p := 62) (v := ?vo_w51) (w1 := (wr.setCell ⟨go43, ((ji37) : Int).toNat, none⟩ (.int .u64 (Int.tmod (IntKind.u64.wrap ((IntKind.u64.wrap ((rd x5_2 (ji37)) + (IntKind.u64.wrap ((rd l0_1 x6_1) * t404)))) + x7_2)) 65536)))) ?hg ?ho ?hn ?hr ?_; (case ho => rfl); (case hg => rfl); (case hn => rfl); (case hr => exact gs_); intro w51 hw; have hg : wr.grownBy w51 (some go43) := (by rw [hw]; exact HP50.2); have hp_ : Kd.R (Kd.int .u64) 45 w51 w.heap.size (fun _ => True) (.slice (some ⟨go43, 0, none⟩) x5_2.length co47) y405 := (by rw [hw, Ny405.out]; exact HP50.1); clear HP50; replace BK388 := Aside0.mk (blk_grown (g := gb388) (o := .cells #[.bool a0_0, .slice (some ad403) l0_1.length c0_1] 61 (0, 0)) (kb BK388) hg (Kd.R_ne HO_5.out BK388.out (by decide))); replace BK389 := Aside0.mk (blk_grown (g := gb389) (o := .cells #[.bool a1_0, .slice A1_1 l1_1.length c1_1] 61 (0, 0)) (kb BK389) hg (Kd.R_ne HO_5.out BK389.out (by decide))); replace BK390 := Aside0.mk (blk_grown (g := gb390) (o := .cells #[.bool false, .slice none 0 0] 61 (0, 0)) (kb BK390) hg (Kd.R_ne HO_5.out BK390.out (by decide))); replace HO_5 := Aside0.mk (hp_); replace HB := Aside0.mk ((by rw [hw]; exact below_set (HB.out) GB43.out : Below w.heap.size w w51)); clear hg hw hp_))
              repeat (go_quiet (first | (go_at_call 72; (with_reducible refine (pochoirref02_at.calls _ _ l1_1 x8_2 t404 _ ?side1 ?side2 A42.out).mono ?_); (case side1 => repeat (first | exact (Kd.C_below HR1_1.out HB.out) | (with_reducible refine Kd.C_alloc ?_ _) | (with_reducible refine Kd.C_drewN ?_ _) | (with_reducible refine Kd.C_drew ?_))); (case side2 => exact HC1_1.out); rintro e w' ⟨rfl, ⟨nd, rfl⟩⟩; (try first | exact ⟨rfl, _, World.drewN_drewN _ _ _⟩ | exact ⟨rfl, _, Eq.trans (World.drewN_drewN _ _ _) (congrArg (World.drewN _) (Nat.add_assoc _ _ _))⟩); have p43 : 0 ≤ ((ji37) : Int) := of_decide_eq_true (by first | (with_reducible assumption) | assumption); have q43 : ((ji37) : Int) < ((x5_2.length : Int) : Int) := of_decide_eq_true (by first | (with_reducible assumption) | assumption); obtain ⟨go43, co43, eo43, gb43, gl43, cl43, HG43⟩ := Kd.R_form HO_5.out (by omega); (first | cases eo43 | (injection eo43 with ea_ en_ ec_; (first | subst ea_ | (injection ea_ with ea_; subst ea_)); subst ec_; clear en_)); have GB43 := Aside0.mk gb43; have GG43 := Aside0.mk HG43; clear gb43 gl43 HG43; (first | simp only [add_plain] at hx402_0 | skip); obtain ⟨hx43_0, hf43_0⟩ := Kd.R_celln 0 HO_5.out ((ji37) : Int) p43 q43; replace p43 := eq_true p43; replace q43 := eq_true q43; obtain ⟨hy50_, hz50_⟩ := Kd.R_celln 0 HO_5.out ((ji37) : Int) (of_decide_eq_true (by first | (with_reducible assumption) | assumption)) (of_decide_eq_true (by first | (with_reducible assumption) | assumption)); have HP50 := Kd.R_putg HO_5.out ((ji37) : Int) (Int.tmod (IntKind.u64.wrap ((IntKind.u64.wrap ((rd x5_2 (ji37)) + (IntKind.u64.wrap ((rd l0_1 x6_1) * t404)))) + x7_2)) 65536)) | ((with_reducible refine gate_store (t := 45) (p := 62) rfl ?_); (try (rw [drewN_self wr]; generalize hq_ : World.drewN wr _ = wr; have n0_ := Aside0.mk (Kd.R_at hq_ HO_5.out); have n1_ := Aside0.mk (blk_at hq_ BK388.out); have n2_ := Aside0.mk (blk_at hq_ BK389.out); have n3_ := Aside0.mk (blk_at hq_ BK390.out); have n4_ := Aside0.mk (below_at hq_ HB.out); clear hq_ HO_5 BK388 BK389 BK390 HB; have HO_5 := n0_; have BK388 := n1_; have BK389 := n2_; have BK390 := n3_; have HB := n4_; clear n0_ n1_ n2_ n3_ n4_; (try (obtain ⟨hy50_, hz50_⟩ := Kd.R_celln 0 HO_5.out ((ji37) : Int) (of_decide_eq_true (by first | (with_reducible assumption) | assumption)) (of_decide_eq_true (by first | (with_reducible assumption) | assumption)))); (try (have HP50 := Kd.R_putg HO_5.out ((ji37) : Int) (Int.tmod (IntKind.u64.wrap ((IntKind.u64.wrap ((rd x5_2 (ji37)) + (IntKind.u64.wrap ((rd l0_1 x6_1) * t404)))) + x7_2)) 65536))))); refine store_event (t := 45) (p := 62) (v := ?vo_w51) (w1 := (wr.setCell ⟨go43, ((ji37) : Int).toNat, none⟩ (.int .u64 (Int.tmod (IntKind.u64.wrap ((IntKind.u64.wrap ((rd x5_2 (ji37)) + (IntKind.u64.wrap ((rd l0_1 x6_1) * t404)))) + x7_2)) 65536)))) ?hg ?ho ?hn ?hr ?_; (case ho => rfl); (case hg => rfl); (case hn => rfl); (case hr => exact gs_); intro w51 hw; have hg : wr.grownBy w51 (some go43) := (by rw [hw]; exact HP50.2); have hp_ : Kd.R (Kd.int .u64) 45 w51 w.heap.size (fun _ => True) (.slice (some ⟨go43, 0, none⟩) x5_2.length co47) y405 := (by rw [hw, Ny405.out]; exact HP50.1); clear HP50; replace BK388 := Aside0.mk (blk_grown (g := gb388) (o := .cells #[.bool a0_0, .slice (some ad403) l0_1.length c0_1] 61 (0, 0)) (kb BK388) hg (Kd.R_ne HO_5.out BK388.out (by decide))); replace BK389 := Aside0.mk (blk_grown (g := gb389) (o := .cells #[.bool a1_0, .slice A1_1 l1_1.length c1_1] 61 (0, 0)) (kb BK389) hg (Kd.R_ne HO_5.out BK389.out (by decide))); replace BK390 := Aside0.mk (blk_grown (g := gb390) (o := .cells #[.bool false, .slice none 0 0] 61 (0, 0)) (kb BK390) hg (Kd.R_ne HO_5.out BK390.out (by decide))); replace HO_5 := Aside0.mk (hp_); replace HB := Aside0.mk ((by rw [hw]; exact below_set (HB.out) GB43.out : Below w.heap.size w w51)); clear hg hw hp_)); try go_wp2_with (first | (go_at_call 72; (with_reducible refine (pochoirref02_at.calls _ _ l1_1 x8_2 t404 _ ?side1 ?side2 A42.out).mono ?_); (case side1 => repeat (first | exact (Kd.C_below HR1_1.out HB.out) | (with_reducible refine Kd.C_alloc ?_ _) | (with_reducible refine Kd.C_drewN ?_ _) | (with_reducible refine Kd.C_drew ?_))); (case side2 => exact HC1_1.out); rintro e w' ⟨rfl, ⟨nd, rfl⟩⟩; (try first | exact ⟨rfl, _, World.drewN_drewN _ _ _⟩ | exact ⟨rfl, _, Eq.trans (World.drewN_drewN _ _ _) (congrArg (World.drewN _) (Nat.add_assoc _ _ _))⟩); have p43 : 0 ≤ ((ji37) : Int) := of_decide_eq_true (by first | (with_reducible assumption) | assumption); have q43 : ((ji37) : Int) < ((x5_2.length : Int) : Int) := of_decide_eq_true (by first | (with_reducible assumption) | assumption); obtain ⟨go43, co43, eo43, gb43, gl43, cl43, HG43⟩ := Kd.R_form HO_5.out (by omega); (first | cases eo43 | (injection eo43 with ea_ en_ ec_; (first | subst ea_ | (injection ea_ with ea_; subst ea_)); subst ec_; clear en_)); have GB43 := Aside0.mk gb43; have GG43 := Aside0.mk HG43; clear gb43 gl43 HG43; (first | simp only [add_plain] at hx402_0 | skip); obtain ⟨hx43_0, hf43_0⟩ := Kd.R_celln 0 HO_5.out ((ji37) : Int) p43 q43; replace p43 := eq_true p43; replace q43 := eq_true q43; obtain ⟨hy50_, hz50_⟩ := Kd.R_celln 0 HO_5.out ((ji37) : Int) (of_decide_eq_true (by first | (with_reducible assumption) | assumption)) (of_decide_eq_true (by first | (with_reducible assumption) | assumption)); have HP50 := Kd.R_putg HO_5.out ((ji37) : Int) (Int.tmod (IntKind.u64.wrap ((IntKind.u64.wrap ((rd x5_2 (ji37)) + (IntKind.u64.wrap ((rd l0_1 x6_1) * t404)))) + x7_2)) 65536)) | ((with_reducible refine gate_store (t := 45) (p := 62) rfl ?_); (try (rw [drewN_self wr]; generalize hq_ : World.drewN wr _ = wr; have n0_ := Aside0.mk (Kd.R_at hq_ HO_5.out); have n1_ := Aside0.mk (blk_at hq_ BK388.out); have n2_ := Aside0.mk (blk_at hq_ BK389.out); have n3_ := Aside0.mk (blk_at hq_ BK390.out); have n4_ := Aside0.mk (below_at hq_ HB.out); clear hq_ HO_5 BK388 BK389 BK390 HB; have HO_5 := n0_; have BK388 := n1_; have BK389 := n2_; have BK390 := n3_; have HB := n4_; clear n0_ n1_ n2_ n3_ n4_; (try (obtain ⟨hy50_, hz50_⟩ := Kd.R_celln 0 HO_5.out ((ji37) : Int) (of_decide_eq_true (by first | (with_reducible assumption) | assumption)) (of_decide_eq_true (by first | (with_reducible assumption) | assumption)))); (try (have HP50 := Kd.R_putg HO_5.out ((ji37) : Int) (Int.tmod (IntKind.u64.wrap ((IntKind.u64.wrap ((rd x5_2 (ji37)) + (IntKind.u64.wrap ((rd l0_1 x6_1) * t404)))) + x7_2)) 65536))))); refine store_event (t := 45) (p := 62) (v := ?vo_w51) (w1 := (wr.setCell ⟨go43, ((ji37) : Int).toNat, none⟩ (.int .u64 (Int.tmod (IntKind.u64.wrap ((IntKind.u64.wrap ((rd x5_2 (ji37)) + (IntKind.u64.wrap ((rd l0_1 x6_1) * t404)))) + x7_2)) 65536)))) ?hg ?ho ?hn ?hr ?_; (case ho => rfl); (case hg => rfl); (case hn => rfl); (case hr => exact gs_); intro w51 hw; have hg : wr.grownBy w51 (some go43) := (by rw [hw]; exact HP50.2); have hp_ : Kd.R (Kd.int .u64) 45 w51 w.heap.size (fun _ => True) (.slice (some ⟨go43, 0, none⟩) x5_2.length co47) y405 := (by rw [hw, Ny405.out]; exact HP50.1); clear HP50; replace BK388 := Aside0.mk (blk_grown (g := gb388) (o := .cells #[.bool a0_0, .slice (some ad403) l0_1.length c0_1] 61 (0, 0)) (kb BK388) hg (Kd.R_ne HO_5.out BK388.out (by decide))); replace BK389 := Aside0.mk (blk_grown (g := gb389) (o := .cells #[.bool a1_0, .slice A1_1 l1_1.length c1_1] 61 (0, 0)) (kb BK389) hg (Kd.R_ne HO_5.out BK389.out (by decide))); replace BK390 := Aside0.mk (blk_grown (g := gb390) (o := .cells #[.bool false, .slice none 0 0] 61 (0, 0)) (kb BK390) hg (Kd.R_ne HO_5.out BK390.out (by decide))); replace HO_5 := Aside0.mk (hp_); replace HB := Aside0.mk ((by rw [hw]; exact below_set (HB.out) GB43.out : Below w.heap.size w w51)); clear hg hw hp_)))
              go_roundg k2
              case measure => have := HK1.out; have := HK2.out; omega
              case rel => exact ⟨(y405), (IntKind.u64.wrap (Int.tdiv (IntKind.u64.wrap ((IntKind.u64.wrap ((rd x5_2 (ji37)) + (IntKind.u64.wrap ((rd l0_1 x6_1) * t404)))) + x7_2)) 65536)), (wrap64 (x8_2 + 1)), (by first | rfl | (simp; done) | (simp only [← hji37] <;> (first | rfl | simp)) | (simp [*]; done)), (by first | rfl | (simp; done) | (simp [*]; done)), H', ⟨by have := HK1.out; have := HK2.out; omega⟩, ⟨by (with_reducible repeat (first | apply Kd.R_alloc | apply Kd.R_drewN | apply Kd.R_drew)); exact HO_5.out⟩, ⟨kb BK388⟩, ⟨kb BK389⟩, ⟨kb BK390⟩, ⟨bl HB⟩⟩
             ·rw [if_neg c41] at H
              exact absurd H (by simp)
            ·rw [if_neg c40] at H
             exact absurd H (by simp)
           ·rw [if_neg c39] at H
            exact absurd H (by simp)
          ·rw [if_neg c38] at H
           exact absurd H (by simp)
         ·rw [if_neg c36] at H
          have c36b0 : decide (0 < x7_2) = false := decide_eq_false c36
          clear c36
          have H' := Aside0.mk H
          clear H
          have hnb52 := NB389_388.out
          have hnc52 := NB388_389.out
          have hnb53 := NB389_390.out
          have hnc53 := NB390_389.out
          have hcz54_0 := ck BK389 0
          have hcz54_1 := ck BK389 1
          have hfz54_0 := blk_frozen BK389.out 0
          have hfz54_1 := blk_frozen BK389.out 1
          go_wp2
          repeat (go_quiet (fail); try go_wp2)
          go_roundg k2
          case measure => have := HK1.out; have := HK2.out; omega
          case rel => exact ⟨(x5_2), (wrap64 (x6_1 + 1)), (by first | rfl | (simp; done) | (simp [*]; done)), H', ⟨by have := HK1.out; have := HK2.out; omega⟩, ⟨by (with_reducible repeat (first | apply Kd.R_alloc | apply Kd.R_drewN | apply Kd.R_drew)); exact HO_5.out⟩, ⟨kb BK388⟩, ⟨kb BK389⟩, ⟨kb BK390⟩, ⟨bl HB⟩⟩
     ·rw [if_neg c16] at H
      have c16b0 : decide (x6_1 < (l0_1.length : Int)) = false := decide_eq_false c16
      clear c16
      replace H := Option.bind_eq_some_iff.mp H
      obtain ⟨⟨t394, t395⟩, A550, H⟩ := H
      replace H : (some (t394, t395)) = some (r1, r2) := H
      have A55 : Aside0 (pochoirref02_norm.f k1 (!(a0_0 == a1_0)) x5_1 = some (t394, t395)) := Aside0.mk A550
      clear A550
      simp only [Option.some.injEq, Prod.mk.injEq] at H
      obtain ⟨rfl, rfl⟩ := H
      have hnb56 := NB388_389.out
      have hnc56 := NB389_388.out
      have hnb57 := NB388_390.out
      have hnc57 := NB390_388.out
      have hcz58_0 := ck BK388 0
      have hcz58_1 := ck BK388 1
      have hfz58_0 := blk_frozen BK388.out 0
      have hfz58_1 := blk_frozen BK388.out 1
      have hnb59 := NB389_390.out
      have hnc59 := NB390_389.out
      have hcz60_0 := ck BK389 0
      have hcz60_1 := ck BK389 1
      have hfz60_0 := blk_frozen BK389.out 0
      have hfz60_1 := blk_frozen BK389.out 1
      obtain ⟨Ao61, co61, eo61⟩ := Kd.R_slice HO_5.out
      subst eo61
      go_wp2_with (first | (go_at_call 55; (with_reducible refine (pochoirref02_norm.calls k1 (!(a0_0 == a1_0)) (fun k_ => some k_ = (.slice Ao61 x5_1.length co61 : Value).ownBlock) (.slice Ao61 x5_1.length co61) x5_1 t394 t395 w _ ?side1 ?side2 A55.out).mono ?_); (case side1 => exact bl HB); (case side2 => exact Kd.R_tight rfl HO_5.out); rintro e w62 ⟨v396, rfl, ho0, hb, hkp⟩; replace BK388 := Aside0.mk (blk_kept (kb BK388) hkp (fun hs_ => (fun e_ => (Kd.R_ne HO_5.out BK388.out (by decide)) e_) hs_)); replace BK389 := Aside0.mk (blk_kept (kb BK389) hkp (fun hs_ => (fun e_ => (Kd.R_ne HO_5.out BK389.out (by decide)) e_) hs_)); replace BK390 := Aside0.mk (blk_kept (kb BK390) hkp (fun hs_ => (fun e_ => (Kd.R_ne HO_5.out BK390.out (by decide)) e_) hs_)); have HO397 := Aside0.mk (Kd.R_mono (ok' := fun k_ => True) ho0 (fun k_ hk_ => trivial)); replace HB := Aside0.mk (hb); clear HO_5; (try clear hb); (try clear hkp); (try clear ho0); have hcz63_0 := ck BK390 0; have hcz63_1 := ck BK390 1; have hfz63_0 := blk_frozen BK390.out 0; have hfz63_1 := blk_frozen BK390.out 1; obtain ⟨Ao64, co64, eo64⟩ := Kd.R_slice HO397.out; subst eo64))
      repeat (go_quiet (first | (go_at_call 55; (with_reducible refine (pochoirref02_norm.calls k1 (!(a0_0 == a1_0)) (fun k_ => some k_ = (.slice Ao61 x5_1.length co61 : Value).ownBlock) (.slice Ao61 x5_1.length co61) x5_1 t394 t395 w _ ?side1 ?side2 A55.out).mono ?_); (case side1 => exact bl HB); (case side2 => exact Kd.R_tight rfl HO_5.out); rintro e w62 ⟨v396, rfl, ho0, hb, hkp⟩; replace BK388 := Aside0.mk (blk_kept (kb BK388) hkp (fun hs_ => (fun e_ => (Kd.R_ne HO_5.out BK388.out (by decide)) e_) hs_)); replace BK389 := Aside0.mk (blk_kept (kb BK389) hkp (fun hs_ => (fun e_ => (Kd.R_ne HO_5.out BK389.out (by decide)) e_) hs_)); replace BK390 := Aside0.mk (blk_kept (kb BK390) hkp (fun hs_ => (fun e_ => (Kd.R_ne HO_5.out BK390.out (by decide)) e_) hs_)); have HO397 := Aside0.mk (Kd.R_mono (ok' := fun k_ => True) ho0 (fun k_ hk_ => trivial)); replace HB := Aside0.mk (hb); clear HO_5; (try clear hb); (try clear hkp); (try clear ho0); have hcz63_0 := ck BK390 0; have hcz63_1 := ck BK390 1; have hfz63_0 := blk_frozen BK390.out 0; have hfz63_1 := blk_frozen BK390.out 1; obtain ⟨Ao64, co64, eo64⟩ := Kd.R_slice HO397.out; subst eo64)); try go_wp2_with (first | (go_at_call 55; (with_reducible refine (pochoirref02_norm.calls k1 (!(a0_0 == a1_0)) (fun k_ => some k_ = (.slice Ao61 x5_1.length co61 : Value).ownBlock) (.slice Ao61 x5_1.length co61) x5_1 t394 t395 w _ ?side1 ?side2 A55.out).mono ?_); (case side1 => exact bl HB); (case side2 => exact Kd.R_tight rfl HO_5.out); rintro e w62 ⟨v396, rfl, ho0, hb, hkp⟩; replace BK388 := Aside0.mk (blk_kept (kb BK388) hkp (fun hs_ => (fun e_ => (Kd.R_ne HO_5.out BK388.out (by decide)) e_) hs_)); replace BK389 := Aside0.mk (blk_kept (kb BK389) hkp (fun hs_ => (fun e_ => (Kd.R_ne HO_5.out BK389.out (by decide)) e_) hs_)); replace BK390 := Aside0.mk (blk_kept (kb BK390) hkp (fun hs_ => (fun e_ => (Kd.R_ne HO_5.out BK390.out (by decide)) e_) hs_)); have HO397 := Aside0.mk (Kd.R_mono (ok' := fun k_ => True) ho0 (fun k_ hk_ => trivial)); replace HB := Aside0.mk (hb); clear HO_5; (try clear hb); (try clear hkp); (try clear ho0); have hcz63_0 := ck BK390 0; have hcz63_1 := ck BK390 1; have hfz63_0 := blk_frozen BK390.out 0; have hfz63_1 := blk_frozen BK390.out 1; obtain ⟨Ao64, co64, eo64⟩ := Kd.R_slice HO397.out; subst eo64)))
      refine bodyPost_ret (results_cell_row rfl _ _ gb390 61 #[.bool t394, .slice Ao64 t395.length co64] (0, 0) _ rfl (by (with_reducible repeat (first | refine blk_drewN ?_ _ | refine blk_drew ?_ | refine blk_alloc ?_ _)); refine blk_put (cs := #[.bool t394, .slice none 0 0]) ?_ 1 _ rfl; (with_reducible repeat (first | refine blk_drewN ?_ _ | refine blk_drew ?_ | refine blk_alloc ?_ _)); refine blk_put (cs := #[.bool false, .slice none 0 0]) ?_ 0 _ rfl; (with_reducible repeat (first | refine blk_drewN ?_ _ | refine blk_drew ?_ | refine blk_alloc ?_ _)); exact BK390.out) Tryd.underlying61 rfl (by kernel_rfl)) rfl ?_
      exact ⟨_, by first | rfl | (simp [errW_none, errW_some] <;> rfl) | (simp only [← hji3]; first | rfl | (simp [errW_none, errW_some] <;> rfl)) | (simp [*, errW_none, errW_some] <;> rfl), by (with_reducible repeat (first | apply Kd.R_alloc | apply Kd.R_drewN | apply Kd.R_drew)); exact Kd.R_mono (Kd.R_far (p := ⟨gb390, 1, none⟩) (Kd.R_far (p := ⟨gb390, 0, none⟩) (Kd.R_types HO397.out BK390.out (by decide)) (fun _ hk => hk.2) (.bool t394)) (fun _ hk => hk.2) (.slice Ao64 t395.length co64)) (fun _ hk => trivial), bl HB⟩
  ·rw [if_neg c5] at H
   exact absurd H (by simp)
 ·rw [if_neg c4] at H
  exact absurd H (by simp)

/-! ### pochoirref03_times: function 37 -/
def pochoirref03_times.f (k : Nat) (a0 : Int) (a1 : Int) : Option (Bool × List Int) := (pochoirref02_Of.f k a0).bind fun bt407 => ((pochoirref02_Of.f k a1).bind fun bt411 => ((pochoirref02_Mul.f k bt407.1 bt407.2 bt411.1 bt411.2).bind fun bt415 => (some (bt415.1, bt415.2))))
theorem pochoirref03_times.mono : ∀ a0 a1 k, LeO (pochoirref03_times.f k a0 a1) (pochoirref03_times.f (k + 1) a0 a1) := by
 intro a0 a1 k
 unfold pochoirref03_times.f
 repeat' first
   | (with_reducible exact pochoirref02_Mul.mono _ _ _ _ _)
   | (with_reducible exact pochoirref02_Of.mono _ _)
   | (with_reducible exact LeO.refl _)
   | (with_reducible exact LeO.none _)
   | (with_reducible refine LeO.ite ?_ ?_)
   | (with_reducible refine LeO.bind ?_ (fun _ => ?_))
   | exact pochoirref02_Mul.mono _ _ _ _ _
   | exact pochoirref02_Of.mono _ _
   | exact LeO.none _
   | refine LeO.ite ?_ ?_
   | refine LeO.bind ?_ (fun _ => ?_)
set_option maxHeartbeats 8000000 in
set_option maxRecDepth 100000 in
theorem pochoirref03_times.calls (k : Nat) (a0 : Int) (a1 : Int) (r1 : Bool) (r2 : List Int) (w : World) (h : pochoirref03_times.f k a0 a1 = some (r1, r2)) :
  Calls Tryd.prog 37 #[.int .i64 a0, .int .i64 a1] w fun e w' => ∃ v1_ : Value, e = .returned (.agg #[.bool r1, v1_]) ∧ Kd.R (Kd.int .u64) 45 w' w.heap.size (fun _ => True) v1_ r2 ∧ Below w.heap.size w w' := by
 have hu61 := Tryd.underlying61
 have HB := Aside0.mk (Below.refl w.heap.size w)
 have H : ((pochoirref02_Of.f k a0).bind fun bt407 => ((pochoirref02_Of.f k a1).bind fun bt411 => ((pochoirref02_Mul.f k bt407.1 bt407.2 bt411.1 bt411.2).bind fun bt415 => (some (bt415.1, bt415.2))))) = some (r1, r2) := h
 clear h
 replace H := Option.bind_eq_some_iff.mp H
 obtain ⟨⟨t407, t408⟩, A30, H⟩ := H
 replace H : ((pochoirref02_Of.f k a1).bind fun bt411 => ((pochoirref02_Mul.f k t407 t408 bt411.1 bt411.2).bind fun bt415 => (some (bt415.1, bt415.2)))) = some (r1, r2) := H
 have A3 := Aside0.mk A30
 clear A30
 replace H := Option.bind_eq_some_iff.mp H
 obtain ⟨⟨t411, t412⟩, A40, H⟩ := H
 replace H : ((pochoirref02_Mul.f k t407 t408 t411 t412).bind fun bt415 => (some (bt415.1, bt415.2))) = some (r1, r2) := H
 have A4 := Aside0.mk A40
 clear A40
 replace H := Option.bind_eq_some_iff.mp H
 obtain ⟨⟨t415, t416⟩, A50, H⟩ := H
 replace H : (some (t415, t416)) = some (r1, r2) := H
 have A5 := Aside0.mk A50
 clear A50
 simp only [Option.some.injEq, Prod.mk.injEq] at H
 obtain ⟨rfl, rfl⟩ := H
 go_enter Tryd.func37, Tryd.ntmps37
 go_wp2_with (first | ((with_reducible refine gate_dst (N := 4) rfl ?_); refine box_event ?hg (N := 4) ?hd (cs := #[.bool false, .slice none 0 0]) (t := 61) ?hr ?_; (case hd => rfl); (case hg => rfl); (case hr => exact gs_); intro gb406 hg w6 hbox hb; have BK406 := Aside0.mk (hbox); have GW406 := Aside0.mk ((by rw [hg]; exact (below_size (bl HB)) : w.heap.size ≤ gb406)); have GE406 := Aside0.mk ((by rw [hg]; exact (below_size (bl HB)) : w.heap.size ≤ gb406)); replace HB := Aside0.mk (below_step (bl HB) hb); clear hb hbox hg) | ((with_reducible refine gate_callee (f := 39) rfl ?_); refine goesL_ (some 6) rfl rfl Tryd.func39 (by kernel_rfl) rfl #[.int .i64 a0] rfl gm_ ?_; (with_reducible refine (pochoirref02_Of.calls k a0 t407 t408 _ A3.out).mono ?_); rintro e w7 ⟨v409, rfl, ho0, hb⟩; refine ⟨_, rfl, ?_⟩; have HO410 := Aside0.mk (Kd.R_lower ho0 (below_size (bl HB))); replace BK406 := Aside0.mk (blk_below (kb BK406) hb); replace HB := Aside0.mk (below_step (bl HB) hb); (try clear hb); (try clear hb2); (try clear hk); (try clear hi); (try clear ho0)) | ((with_reducible refine gate_callee (f := 39) rfl ?_); refine goesL_ (some 8) rfl rfl Tryd.func39 (by kernel_rfl) rfl #[.int .i64 a1] rfl gm_ ?_; (with_reducible refine (pochoirref02_Of.calls k a1 t411 t412 _ A4.out).mono ?_); rintro e w8 ⟨v413, rfl, ho0, hb⟩; refine ⟨_, rfl, ?_⟩; have HO414 := Aside0.mk (Kd.R_lower (Kd.R_new' ho0 (Kd.R_lt (by (with_reducible repeat (first | apply Kd.R_alloc | apply Kd.R_drewN | apply Kd.R_drew)); exact HO410.out))) (below_size (bl HB))); replace HO410 := Aside0.mk (Kd.R_elder' (by (with_reducible repeat (first | apply Kd.R_alloc | apply Kd.R_drewN | apply Kd.R_drew)); exact HO410.out) (Kd.R_base ho0) hb); replace BK406 := Aside0.mk (blk_below (kb BK406) hb); replace HB := Aside0.mk (below_step (bl HB) hb); (try clear hb); (try clear hb2); (try clear hk); (try clear hi); (try clear ho0); obtain ⟨Ao9, co9, eo9⟩ := Kd.R_slice HO410.out; subst eo9; obtain ⟨Ao10, co10, eo10⟩ := Kd.R_slice HO414.out; subst eo10) | ((with_reducible refine gate_callee (f := 53) rfl ?_); refine goesL_ (some 9) rfl rfl Tryd.func53 (by kernel_rfl) rfl #[.agg #[.bool t407, .slice Ao9 t408.length co9], .agg #[.bool t411, .slice Ao10 t412.length co10]] rfl gm_ ?_; (with_reducible refine (pochoirref02_Mul.calls k t407 _ _ t408 t411 _ _ t412 t415 t416 _ ?side1 ?side2 ?side3 ?side4 A5.out).mono ?_); (case side1 => repeat (first | exact (Kd.R_reads' HO410.out).2.2 | (with_reducible refine Kd.C_alloc ?_ _) | (with_reducible refine Kd.C_drewN ?_ _) | (with_reducible refine Kd.C_drew ?_))); (case side2 => exact (Kd.R_reads' HO410.out).2.1); (case side3 => repeat (first | exact (Kd.R_reads' HO414.out).2.2 | (with_reducible refine Kd.C_alloc ?_ _) | (with_reducible refine Kd.C_drewN ?_ _) | (with_reducible refine Kd.C_drew ?_))); (case side4 => exact (Kd.R_reads' HO414.out).2.1); rintro e w11 ⟨v417, rfl, ho0, hb⟩; refine ⟨_, rfl, ?_⟩; have HO418 := Aside0.mk (Kd.R_lower (Kd.R_new' (Kd.R_new' ho0 (Kd.R_lt (by (with_reducible repeat (first | apply Kd.R_alloc | apply Kd.R_drewN | apply Kd.R_drew)); exact HO410.out))) (Kd.R_lt (by (with_reducible repeat (first | apply Kd.R_alloc | apply Kd.R_drewN | apply Kd.R_drew)); exact HO414.out))) (below_size (bl HB))); replace HO410 := Aside0.mk (Kd.R_elder' (by (with_reducible repeat (first | apply Kd.R_alloc | apply Kd.R_drewN | apply Kd.R_drew)); exact HO410.out) (Kd.R_base ho0) hb); replace HO414 := Aside0.mk (Kd.R_elder' (by (with_reducible repeat (first | apply Kd.R_alloc | apply Kd.R_drewN | apply Kd.R_drew)); exact HO414.out) (Kd.R_base ho0) hb); replace BK406 := Aside0.mk (blk_below (kb BK406) hb); replace HB := Aside0.mk (below_step (bl HB) hb); (try clear hb); (try clear hb2); (try clear hk); (try clear hi); (try clear ho0); have hcz12_0 := ck BK406 0; have hcz12_1 := ck BK406 1; have hfz12_0 := blk_frozen BK406.out 0; have hfz12_1 := blk_frozen BK406.out 1; obtain ⟨Ao13, co13, eo13⟩ := Kd.R_slice HO418.out; subst eo13))
 refine bodyPost_ret (results_cell_row rfl _ _ gb406 61 #[.bool t415, .slice Ao13 t416.length co13] (0, 0) _ rfl (by (with_reducible repeat (first | refine blk_drewN ?_ _ | refine blk_drew ?_ | refine blk_alloc ?_ _)); refine blk_put (cs := #[.bool t415, .slice none 0 0]) ?_ 1 _ rfl; (with_reducible repeat (first | refine blk_drewN ?_ _ | refine blk_drew ?_ | refine blk_alloc ?_ _)); refine blk_put (cs := #[.bool false, .slice none 0 0]) ?_ 0 _ rfl; (with_reducible repeat (first | refine blk_drewN ?_ _ | refine blk_drew ?_ | refine blk_alloc ?_ _)); exact BK406.out) Tryd.underlying61 rfl (by kernel_rfl)) rfl ?_
 exact ⟨_, by first | rfl | (simp [errW_none, errW_some] <;> rfl) | (simp [*, errW_none, errW_some] <;> rfl), by (with_reducible repeat (first | apply Kd.R_alloc | apply Kd.R_drewN | apply Kd.R_drew)); exact Kd.R_mono (Kd.R_far (p := ⟨gb406, 1, none⟩) (Kd.R_far (p := ⟨gb406, 0, none⟩) (Kd.R_types HO418.out BK406.out (by decide)) (fun _ hk => hk.2) (.bool t415)) (fun _ hk => hk.2) (.slice Ao13 t416.length co13)) (fun _ hk => trivial), bl HB⟩

end Go.Proofs.YtglcjhjmncolpaaDoor.Q
