-- Written for this claim by a program of the session (wip/print2). Not trusted: Lean checks it.
import Derived.Test.YtglcjhjmncolpaaDoorQx0
import Derived.Test.YtglcjhjmncolpaaDoorQx14
import Derived.Test.YtglcjhjmncolpaaDoorQx16
namespace Go.Proofs.YtglcjhjmncolpaaDoor.Q
open Go.RowKit Go.Proofs.YtglcjhjmncolpaaDoorW.PrintWords Go.Proofs.YtglcjhjmncolpaaDoorW.PrintLast Go.Proofs.YtglcjhjmncolpaaDoorW.PrintMore
attribute [local go_sem] max2_int min2_int max_two min_two max_three min_three max_four min_four   -- for this text's walks alone
set_option linter.unusedVariables false
set_option linter.unusedSimpArgs false

/-! ### pochoirref02_Sub: function 38 -/
def pochoirref02_Sub.f (k : Nat) (a0_0 : Bool) (l0_1 : List Int) (a1_0 : Bool) (l1_1 : List Int) : Option (Bool × List Int) := (pochoirref02_Neg.f k a1_0 l1_1).bind fun bt357 => ((pochoirref02_Add.f k a0_0 l0_1 bt357.1 bt357.2).bind fun bt361 => (some (bt361.1, bt361.2)))
theorem pochoirref02_Sub.mono : ∀ a0 a1 a2 a3 k, LeO (pochoirref02_Sub.f k a0 a1 a2 a3) (pochoirref02_Sub.f (k + 1) a0 a1 a2 a3) := by
 intro a0 a1 a2 a3 k
 unfold pochoirref02_Sub.f
 repeat' first
   | (with_reducible exact pochoirref02_Add.mono _ _ _ _ _)
   | (with_reducible exact pochoirref02_Neg.mono _ _ _)
   | (with_reducible exact LeO.refl _)
   | (with_reducible exact LeO.none _)
   | (with_reducible refine LeO.ite ?_ ?_)
   | (with_reducible refine LeO.bind ?_ (fun _ => ?_))
   | exact pochoirref02_Add.mono _ _ _ _ _
   | exact pochoirref02_Neg.mono _ _ _
   | exact LeO.none _
   | refine LeO.ite ?_ ?_
   | refine LeO.bind ?_ (fun _ => ?_)
set_option maxHeartbeats 8000000 in
set_option maxRecDepth 100000 in
theorem pochoirref02_Sub.calls (k : Nat) (a0_0 : Bool) (A0_1 : Option Addr) (c0_1 : Nat) (l0_1 : List Int) (a1_0 : Bool) (P1_1_ : Nat → Prop) (u9000_ : Value) (l1_1 : List Int) (r1 : Bool) (r2 : List Int) (w0 w : World) (hB : Below w0.heap.size w0 w) (hr0_1 : ∀ W_, Kept w W_ (fun k_ => P1_1_ k_) → Kd.C (Kd.int .u64) W_ A0_1 l0_1.length l0_1) (hc0_1 : l0_1.length ≤ c0_1) (ho1_1 : Kd.R (Kd.int .u64) 45 w w0.heap.size P1_1_ u9000_ l1_1) (h : pochoirref02_Sub.f k a0_0 l0_1 a1_0 l1_1 = some (r1, r2)) :
  Calls Tryd.prog 38 #[.agg #[.bool a0_0, .slice A0_1 l0_1.length c0_1], .agg #[.bool a1_0, u9000_]] w fun e w' => ∃ v1_ : Value, e = .returned (.agg #[.bool r1, v1_]) ∧ Kd.R (Kd.int .u64) 45 w' w0.heap.size (fun k_ => (P1_1_ k_ ∨ w.heap.size ≤ k_)) v1_ r2 ∧ Below w0.heap.size w0 w' ∧ Kept w w' (fun k_ => P1_1_ k_) := by
 have hu61 := Tryd.underlying61
 have HR0_1 := Aside0.mk hr0_1
 have HC0_1 := Aside0.mk hc0_1
 clear hr0_1 hc0_1
 have HO1_1 := Aside0.mk (show Kd.R (Kd.int .u64) 45 w w0.heap.size (fun k_ => (P1_1_ k_ ∨ w.heap.size ≤ k_)) u9000_ l1_1 from Kd.R_mono ho1_1 (fun k_ hk => (.inl hk)))
 have HK := Aside0.mk (Kept.refl w (fun k_ => P1_1_ k_))
 have HW0 := Aside0.mk hB.size
 have HB := Aside0.mk hB
 clear hB
 have H : ((pochoirref02_Neg.f k a1_0 l1_1).bind fun bt357 => ((pochoirref02_Add.f k a0_0 l0_1 bt357.1 bt357.2).bind fun bt361 => (some (bt361.1, bt361.2)))) = some (r1, r2) := h
 clear h
 replace H := Option.bind_eq_some_iff.mp H
 obtain ⟨⟨t357, t358⟩, A30, H⟩ := H
 replace H : ((pochoirref02_Add.f k a0_0 l0_1 t357 t358).bind fun bt361 => (some (bt361.1, bt361.2))) = some (r1, r2) := H
 have A3 := Aside0.mk A30
 clear A30
 replace H := Option.bind_eq_some_iff.mp H
 obtain ⟨⟨t361, t362⟩, A40, H⟩ := H
 replace H : (some (t361, t362)) = some (r1, r2) := H
 have A4 := Aside0.mk A40
 clear A40
 simp only [Option.some.injEq, Prod.mk.injEq] at H
 obtain ⟨rfl, rfl⟩ := H
 go_enter Tryd.func38, Tryd.ntmps38
 try go_wp2_with (first | ((with_reducible refine gate_dst (N := 2) rfl ?_); refine box_event ?hg (N := 2) ?hd (cs := #[.bool a0_0, .slice A0_1 l0_1.length c0_1]) (t := 61) ?hr ?_; (case hd => rfl); (case hg => rfl); (case hr => exact gs_); intro gb354 hg w5 hbox hb; replace HO1_1 := Aside0.mk (Kd.R_below (by (with_reducible repeat (first | apply Kd.R_alloc | apply Kd.R_drewN | apply Kd.R_drew)); exact HO1_1.out) hb); have BK354 := Aside0.mk (hbox); have GW354 := Aside0.mk ((by rw [hg]; exact (by first | exact HK.out.1 | exact (show Kept w _ (fun k_ => P1_1_ k_) from by repeat (first | (with_reducible first | exact HK.out | apply Kept.alloc | apply Kept.drewN | apply Kept.drew) | exact HK.out)).1) : w.heap.size ≤ gb354)); replace HK := Aside0.mk (Kept.below (S := (fun k_ => P1_1_ k_)) (by repeat (first | (with_reducible first | exact HK.out | apply Kept.alloc | apply Kept.drewN | apply Kept.drew) | exact HK.out)) hb); have GE354 := Aside0.mk ((by rw [hg]; exact (below_size (bl HB)) : w0.heap.size ≤ gb354)); replace HB := Aside0.mk (below_step (bl HB) hb); clear hb hbox hg; obtain ⟨Ao6, co6, eo6⟩ := Kd.R_slice HO1_1.out; subst eo6) | ((with_reducible refine gate_dst (N := 3) rfl ?_); refine box_event ?hg (N := 3) ?hd (cs := #[.bool a1_0, .slice Ao6 l1_1.length co6]) (t := 61) ?hr ?_; (case hd => rfl); (case hg => rfl); (case hr => exact gs_); intro gb355 hg w7 hbox hb; replace HO1_1 := Aside0.mk (Kd.R_below (by (with_reducible repeat (first | apply Kd.R_alloc | apply Kd.R_drewN | apply Kd.R_drew)); exact HO1_1.out) hb); have BK355 := Aside0.mk (hbox); have GW355 := Aside0.mk ((by rw [hg]; exact (by first | exact HK.out.1 | exact (show Kept w _ (fun k_ => P1_1_ k_) from by repeat (first | (with_reducible first | exact HK.out | apply Kept.alloc | apply Kept.drewN | apply Kept.drew | refine Kept.setCell ?_ (.inr GW354.out) _) | exact HK.out)).1) : w.heap.size ≤ gb355)); replace HK := Aside0.mk (Kept.below (S := (fun k_ => P1_1_ k_)) (by repeat (first | (with_reducible first | exact HK.out | apply Kept.alloc | apply Kept.drewN | apply Kept.drew | refine Kept.setCell ?_ (.inr GW354.out) _) | exact HK.out)) hb); have GE355 := Aside0.mk ((by rw [hg]; exact (below_size (bl HB)) : w0.heap.size ≤ gb355)); replace HB := Aside0.mk (below_step (bl HB) hb); have NB354_355 := Aside0.mk ((by rw [hg]; exact Nat.ne_of_lt (blk_lt (kb BK354)) : gb354 ≠ gb355)); have NB355_354 := Aside0.mk ((by rw [hg]; exact Nat.ne_of_gt (blk_lt (kb BK354)) : gb355 ≠ gb354)); replace BK354 := Aside0.mk (blk_below (kb BK354) hb); clear hb hbox hg) | ((with_reducible refine gate_dst (N := 4) rfl ?_); refine box_event ?hg (N := 4) ?hd (cs := #[.bool false, .slice none 0 0]) (t := 61) ?hr ?_; (case hd => rfl); (case hg => rfl); (case hr => exact gs_); intro gb356 hg w8 hbox hb; replace HO1_1 := Aside0.mk (Kd.R_below (by (with_reducible repeat (first | apply Kd.R_alloc | apply Kd.R_drewN | apply Kd.R_drew)); exact HO1_1.out) hb); have BK356 := Aside0.mk (hbox); have GW356 := Aside0.mk ((by rw [hg]; exact (by first | exact HK.out.1 | exact (show Kept w _ (fun k_ => P1_1_ k_) from by repeat (first | (with_reducible first | exact HK.out | apply Kept.alloc | apply Kept.drewN | apply Kept.drew | refine Kept.setCell ?_ (.inr GW354.out) _ | refine Kept.setCell ?_ (.inr GW355.out) _) | exact HK.out)).1) : w.heap.size ≤ gb356)); replace HK := Aside0.mk (Kept.below (S := (fun k_ => P1_1_ k_)) (by repeat (first | (with_reducible first | exact HK.out | apply Kept.alloc | apply Kept.drewN | apply Kept.drew | refine Kept.setCell ?_ (.inr GW354.out) _ | refine Kept.setCell ?_ (.inr GW355.out) _) | exact HK.out)) hb); have GE356 := Aside0.mk ((by rw [hg]; exact (below_size (bl HB)) : w0.heap.size ≤ gb356)); replace HB := Aside0.mk (below_step (bl HB) hb); have NB354_356 := Aside0.mk ((by rw [hg]; exact Nat.ne_of_lt (blk_lt (kb BK354)) : gb354 ≠ gb356)); have NB356_354 := Aside0.mk ((by rw [hg]; exact Nat.ne_of_gt (blk_lt (kb BK354)) : gb356 ≠ gb354)); replace BK354 := Aside0.mk (blk_below (kb BK354) hb); have NB355_356 := Aside0.mk ((by rw [hg]; exact Nat.ne_of_lt (blk_lt (kb BK355)) : gb355 ≠ gb356)); have NB356_355 := Aside0.mk ((by rw [hg]; exact Nat.ne_of_gt (blk_lt (kb BK355)) : gb356 ≠ gb355)); replace BK355 := Aside0.mk (blk_below (kb BK355) hb); clear hb hbox hg))
 replace HO1_1 := Aside0.mk (Kd.R_drew HO1_1.out)
 replace BK354 := Aside0.mk (blk_drew BK354.out)
 replace BK355 := Aside0.mk (blk_drew BK355.out)
 replace BK356 := Aside0.mk (blk_drew BK356.out)
 replace HK := Aside0.mk (Kept.drew HK.out)
 replace HB := Aside0.mk (below_drew1 HB.out)
 refine start_ (n := 5) (S := fun w' => w'.cell? ⟨gb354, 0, none⟩ = some (.bool a0_0) ∧ w'.cell? ⟨gb354, 1, none⟩ = some (.slice A0_1 l0_1.length c0_1) ∧ w'.cell? ⟨gb355, 0, none⟩ = some (.bool a1_0) ∧ w'.cell? ⟨gb355, 1, none⟩ = some (.slice Ao6 l1_1.length co6)) (ds := []) #[false, false, false, false, false] (by kernel_rfl) rfl rfl ⟨ck BK354 0, ck BK354 1, ck BK355 0, ck BK355 1⟩ (fun hHeld => ?_)
 generalize w8.drew = w9 at HO1_1 BK354 BK355 BK356 HK HB hHeld ⊢
 refine take_ (i := 0) (N := some 5) (v := ?_) (a' := ?_) #[true, false, false, false, false] rfl rfl (by kernel_rfl) (fun _ _ _ h => h) (Or.inl ⟨by rfl, ?_⟩) hHeld ?_ ?_
 rotate_left
 ·rintro w' ⟨s0, s1, s2, s3⟩
  go_simp
  with_reducible rfl
 rotate_left
 ·simp only [Act.put, List.setIfInBounds_toArray, List.set_cons_zero, List.set_cons_succ, i64_w, i32_w]
  rfl
 refine take_ (i := 1) (N := some 6) (v := ?_) (a' := ?_) #[true, true, false, false, false] rfl rfl (by kernel_rfl) (fun _ _ _ h => h) (Or.inl ⟨by rfl, ?_⟩) hHeld ?_ ?_
 rotate_left
 ·rintro w' ⟨s0, s1, s2, s3⟩
  go_simp
  with_reducible rfl
 rotate_left
 ·simp only [Act.put, List.setIfInBounds_toArray, List.set_cons_zero, List.set_cons_succ, i64_w, i32_w]
  rfl
 refine one_ (i := 2) (N := some 7) #[true, true, true, false, false] rfl rfl (by kernel_rfl) (by decide) (fun K hK => ?_)
 refine goes_ Tryd.func54 (by kernel_rfl) rfl #[.agg #[.bool a1_0, .slice Ao6 l1_1.length co6]] (by rfl) rfl rfl gm_ ?_
 with_reducible refine (pochoirref02_Neg.calls k a1_0 (fun k_ => some k_ = (.slice Ao6 l1_1.length co6 : Value).ownBlock) (.slice Ao6 l1_1.length co6) l1_1 t357 t358 w0 _ ?side1 ?side2 A3.out).mono ?_
 (case side1 => exact bl HB)
 (case side2 => exact Kd.R_tight rfl HO1_1.out)
 rintro e w10 ⟨v359, rfl, ho0, hb, hkp⟩
 refine ⟨_, rfl, ?_⟩
 replace BK354 := Aside0.mk (blk_kept (kb BK354) hkp (fun hs_ => (fun e_ => (Kd.R_ne HO1_1.out BK354.out (by decide)) e_) hs_))
 replace BK355 := Aside0.mk (blk_kept (kb BK355) hkp (fun hs_ => (fun e_ => (Kd.R_ne HO1_1.out BK355.out (by decide)) e_) hs_))
 replace BK356 := Aside0.mk (blk_kept (kb BK356) hkp (fun hs_ => (fun e_ => (Kd.R_ne HO1_1.out BK356.out (by decide)) e_) hs_))
 have HO360 := Aside0.mk (Kd.R_mono (ok' := fun k_ => (P1_1_ k_ ∨ w.heap.size ≤ k_)) ho0 (fun k_ hk_ => Or.elim hk_ (fun hs_ => (HO1_1.out.1 k_ (hs_).symm)) (fun hn_ => (.inr (Nat.le_trans (by first | exact HK.out.1 | exact (show Kept w _ (fun k_ => P1_1_ k_) from by repeat (first | (with_reducible first | exact HK.out | apply Kept.alloc | apply Kept.drewN | apply Kept.drew | refine Kept.setCell ?_ (.inr GW354.out) _ | refine Kept.setCell ?_ (.inr GW355.out) _ | refine Kept.setCell ?_ (.inr GW356.out) _) | exact HK.out)).1) hn_)))))
 replace HK := Aside0.mk (Kept.then_ (S := (fun k_ => P1_1_ k_)) (by repeat (first | (with_reducible first | exact HK.out | apply Kept.alloc | apply Kept.drewN | apply Kept.drew | refine Kept.setCell ?_ (.inr GW354.out) _ | refine Kept.setCell ?_ (.inr GW355.out) _ | refine Kept.setCell ?_ (.inr GW356.out) _) | exact HK.out)) hkp (fun k_ hs_ => (fun e_ => (HO1_1.out.1 k_ e_.symm)) hs_))
 replace HB := Aside0.mk (hb)
 clear HO1_1
 (try clear hb)
 (try clear hkp)
 (try clear ho0)
 obtain ⟨Ao11, co11, eo11⟩ := Kd.R_slice HO360.out
 (first | subst eo11 | (injection eo11 with f1_ f2_ f3_; have f4_ := f1_.symm; have f5_ := f3_.symm; clear f1_ f2_ f3_; subst f4_; subst f5_))
 refine hK.out _ _ ⟨ck BK354 0, ck BK354 1, ck BK355 0, ck BK355 1⟩ (fun hHeld => ?_)
 clear hK K
 refine norm_ (a' := ?_) ?_ ?_
 rotate_left
 ·show Act.put _ (some 7) _ = _
  simp only [Act.put, List.setIfInBounds_toArray, List.set_cons_zero, List.set_cons_succ, i64_w, i32_w]
  rfl
 refine one_ (i := 3) (N := some 8) #[true, true, true, true, false] rfl rfl (by kernel_rfl) (by decide) (fun K hK => ?_)
 refine goes_ Tryd.func40 (by kernel_rfl) rfl #[.agg #[.bool a0_0, .slice A0_1 l0_1.length c0_1], .agg #[.bool t357, .slice Ao11 t358.length co11]] (by rfl) rfl rfl gm_ ?_
 with_reducible refine (pochoirref02_Add.calls k a0_0 _ _ l0_1 t357 _ _ t358 t361 t362 _ ?side1 ?side2 ?side3 ?side4 A4.out).mono ?_
 (case side1 => exact Kd.C_kept_now HR0_1.out (by repeat (first | (with_reducible first | exact HK.out | apply Kept.alloc | apply Kept.drewN | apply Kept.drew | refine Kept.setCell ?_ (.inr GW354.out) _ | refine Kept.setCell ?_ (.inr GW355.out) _ | refine Kept.setCell ?_ (.inr GW356.out) _) | exact HK.out)))
 (case side2 => exact HC0_1.out)
 (case side3 => repeat (first | exact (Kd.R_reads' HO360.out).2.2 | (with_reducible refine Kd.C_alloc ?_ _) | (with_reducible refine Kd.C_drewN ?_ _) | (with_reducible refine Kd.C_drew ?_)))
 (case side4 => exact (Kd.R_reads' HO360.out).2.1)
 rintro e w12 ⟨v363, rfl, ho0, hb⟩
 refine ⟨_, rfl, ?_⟩
 have HO364 := Aside0.mk (Kd.R_lower (Kd.R_new' (Kd.R_newM (M := fun k_ => (P1_1_ k_ ∨ w.heap.size ≤ k_)) ho0 (by first | exact HK.out.1 | exact (show Kept w _ (fun k_ => P1_1_ k_) from by repeat (first | (with_reducible first | exact HK.out | apply Kept.alloc | apply Kept.drewN | apply Kept.drew | refine Kept.setCell ?_ (.inr GW354.out) _ | refine Kept.setCell ?_ (.inr GW355.out) _ | refine Kept.setCell ?_ (.inr GW356.out) _) | exact HK.out)).1) (fun k_ h_ => .inr h_)) (Kd.R_lt (by (with_reducible repeat (first | apply Kd.R_alloc | apply Kd.R_drewN | apply Kd.R_drew)); exact HO360.out))) (below_size (bl HB)))
 replace HO360 := Aside0.mk (Kd.R_elder' (by (with_reducible repeat (first | apply Kd.R_alloc | apply Kd.R_drewN | apply Kd.R_drew)); exact HO360.out) (Kd.R_base ho0) hb)
 replace BK354 := Aside0.mk (blk_below (kb BK354) hb)
 replace BK355 := Aside0.mk (blk_below (kb BK355) hb)
 replace BK356 := Aside0.mk (blk_below (kb BK356) hb)
 replace HK := Aside0.mk (Kept.below (S := (fun k_ => P1_1_ k_)) (by repeat (first | (with_reducible first | exact HK.out | apply Kept.alloc | apply Kept.drewN | apply Kept.drew | refine Kept.setCell ?_ (.inr GW354.out) _ | refine Kept.setCell ?_ (.inr GW355.out) _ | refine Kept.setCell ?_ (.inr GW356.out) _) | exact HK.out)) hb)
 replace HB := Aside0.mk (below_step (bl HB) hb)
 (try clear hb)
 (try clear hb2)
 (try clear hk)
 (try clear hi)
 (try clear ho0)
 obtain ⟨Ao14, co14, eo14⟩ := Kd.R_slice HO364.out
 (first | subst eo14 | (injection eo14 with f1_ f2_ f3_; have f4_ := f1_.symm; have f5_ := f3_.symm; clear f1_ f2_ f3_; subst f4_; subst f5_))
 refine hK.out _ _ ⟨ck BK354 0, ck BK354 1, ck BK355 0, ck BK355 1⟩ (fun hHeld => ?_)
 clear hK K
 refine norm_ (a' := ?_) ?_ ?_
 rotate_left
 ·show Act.put _ (some 8) _ = _
  simp only [Act.put, List.setIfInBounds_toArray, List.set_cons_zero, List.set_cons_succ, i64_w, i32_w]
  rfl
 refine one_ (i := 4) (N := none) #[true, true, true, true, true] rfl rfl (by kernel_rfl) (by decide) (fun K hK => ?_)
 have hs13 : w12.cell? ⟨gb356, 0, none⟩ = some (.bool false) := ck BK356 0
 have hfs13 := blk_frozen BK356.out 0
 have hns13_0 := NB354_356.out
 have hns13_1 := NB355_356.out
 have hms13_0 := NB356_354.out
 have hms13_1 := NB356_355.out
 have hs15 : w12.cell? ⟨gb356, 1, none⟩ = some (.slice none 0 0) := ck BK356 1
 have hfs15 := blk_frozen BK356.out 1
 have hns15_0 := NB354_356.out
 have hns15_1 := NB355_356.out
 have hms15_0 := NB356_354.out
 have hms15_1 := NB356_355.out
 refine skip_ (w1 := ?_) (by rfl) rfl ?_ ?_
 rotate_left
 ·go_simp
  rfl
 refine hK.out _ _ ⟨((cell_far (p := ⟨gb356, _, none⟩) NB354_356.out _).trans (((cell_far (p := ⟨gb356, _, none⟩) NB354_356.out _).trans (hHeld.1)))), ((cell_far (p := ⟨gb356, _, none⟩) NB354_356.out _).trans (((cell_far (p := ⟨gb356, _, none⟩) NB354_356.out _).trans (hHeld.2.1)))), ((cell_far (p := ⟨gb356, _, none⟩) NB355_356.out _).trans (((cell_far (p := ⟨gb356, _, none⟩) NB355_356.out _).trans (hHeld.2.2.1)))), ((cell_far (p := ⟨gb356, _, none⟩) NB355_356.out _).trans (((cell_far (p := ⟨gb356, _, none⟩) NB355_356.out _).trans (hHeld.2.2.2))))⟩ (fun hHeld => ?_)
 clear hK K
 refine done_ (by kernel_rfl) ?_
 try go_wp2
 refine bodyPost_ret (results_cell_row rfl _ _ gb356 61 #[.bool t361, .slice Ao14 t362.length co14] (0, 0) _ rfl (by (with_reducible repeat (first | refine blk_drewN ?_ _ | refine blk_drew ?_ | refine blk_alloc ?_ _)); refine blk_put (cs := #[.bool t361, .slice none 0 0]) ?_ 1 _ rfl; (with_reducible repeat (first | refine blk_drewN ?_ _ | refine blk_drew ?_ | refine blk_alloc ?_ _)); refine blk_put (cs := #[.bool false, .slice none 0 0]) ?_ 0 _ rfl; (with_reducible repeat (first | refine blk_drewN ?_ _ | refine blk_drew ?_ | refine blk_alloc ?_ _)); exact BK356.out) Tryd.underlying61 rfl (by kernel_rfl)) rfl ?_
 exact ⟨_, by first | rfl | (simp [errW_none, errW_some] <;> rfl) | (simp [*, errW_none, errW_some] <;> rfl), by (with_reducible repeat (first | apply Kd.R_alloc | apply Kd.R_drewN | apply Kd.R_drew)); exact Kd.R_mono (Kd.R_far (p := ⟨gb356, 1, none⟩) (Kd.R_far (p := ⟨gb356, 0, none⟩) (Kd.R_types HO364.out BK356.out (by decide)) (fun _ hk => hk.2) (.bool t361)) (fun _ hk => hk.2) (.slice Ao14 t362.length co14)) (fun _ hk => hk.1.1.1), by repeat (first | (with_reducible first | exact HB.out | apply below_alloc | apply pw_below_drewN | apply below_drew1 | refine below_set ?_ GE354.out | refine below_set ?_ GE355.out | refine below_set ?_ GE356.out) | exact HB.out), by repeat (first | (with_reducible first | exact HK.out | apply Kept.alloc | apply Kept.drewN | apply Kept.drew | refine Kept.setCell ?_ (.inr GW354.out) _ | refine Kept.setCell ?_ (.inr GW355.out) _ | refine Kept.setCell ?_ (.inr GW356.out) _) | exact HK.out)⟩

/-! ### pochoirref02_Sign: function 52 -/
def pochoirref02_Sign.f (a0_0 : Bool) (l0_1 : List Int) : Option (Int) := if (l0_1.length : Int) = 0 then (some 0) else (if a0_0 = true then (some (-1)) else (some 1))
set_option maxHeartbeats 8000000 in
set_option maxRecDepth 100000 in
theorem pochoirref02_Sign.calls (a0_0 : Bool) (A0_1 : Option Addr) (c0_1 : Nat) (l0_1 : List Int) (r : Int) (w : World) (hr0_1 : Kd.C (Kd.int .u64) w A0_1 l0_1.length l0_1) (hc0_1 : l0_1.length ≤ c0_1) (h : pochoirref02_Sign.f a0_0 l0_1 = some r) :
  Calls Tryd.prog 52 #[.agg #[.bool a0_0, .slice A0_1 l0_1.length c0_1]] w fun e w' => e = .returned (.int .i64 r) ∧ Below w.heap.size w w' := by
 have hu61 := Tryd.underlying61
 have HR0_1 := Aside0.mk hr0_1
 have HC0_1 := Aside0.mk hc0_1
 clear hr0_1 hc0_1
 have HB := Aside0.mk (Below.refl w.heap.size w)
 have H : (if (l0_1.length : Int) = 0 then (some 0) else (if a0_0 = true then (some (-1)) else (some 1))) = some r := h
 clear h
 by_cases c2 : (l0_1.length : Int) = 0
 ·rw [if_pos c2] at H
  have c2b0 : ((l0_1.length : Int) == 0) = true := beq_iff_eq.mpr c2
  have c2b1 : ((l0_1.length : Int) != 0) = false := bne_eq_false_iff_eq.mpr c2
  clear c2
  obtain rfl := Option.some.inj H
  go_enter Tryd.func52, Tryd.ntmps52
  go_wp2_with (first | ((with_reducible refine gate_dst (N := 1) rfl ?_); refine box_event ?hg (N := 1) ?hd (cs := #[.bool a0_0, .slice A0_1 l0_1.length c0_1]) (t := 61) ?hr ?_; (case hd => rfl); (case hg => rfl); (case hr => exact gs_); intro gb365 hg w3 hbox hb; have BK365 := Aside0.mk (hbox); have GW365 := Aside0.mk ((by rw [hg]; exact (below_size (bl HB)) : w.heap.size ≤ gb365)); have GE365 := Aside0.mk ((by rw [hg]; exact (below_size (bl HB)) : w.heap.size ≤ gb365)); replace HB := Aside0.mk (below_step (bl HB) hb); clear hb hbox hg; have hcz4_0 := ck BK365 0; have hcz4_1 := ck BK365 1; have hfz4_0 := blk_frozen BK365.out 0; have hfz4_1 := blk_frozen BK365.out 1))
  go_ret
  exact ⟨by first | rfl | (simp [errW_none, errW_some] <;> rfl) | (simp [*, errW_none, errW_some] <;> rfl), bl HB⟩
 ·rw [if_neg c2] at H
  have c2b0 : ((l0_1.length : Int) == 0) = false := beq_eq_false_iff_ne.mpr c2
  have c2b1 : ((l0_1.length : Int) != 0) = true := bne_iff_ne.mpr c2
  have c2b2 : ¬ (l0_1 = []) := fun h_ => c2 (by rw [h_]; rfl)
  by_cases c5 : a0_0 = true
  ·subst c5
   have H1 : (some (-1)) = some r := by rw [if_pos rfl] at H; exact H
   clear H
   have H := H1
   clear H1
   obtain rfl := Option.some.inj H
   go_enter Tryd.func52, Tryd.ntmps52
   go_wp2_with (first | ((with_reducible refine gate_dst (N := 1) rfl ?_); refine box_event ?hg (N := 1) ?hd (cs := #[.bool true, .slice A0_1 l0_1.length c0_1]) (t := 61) ?hr ?_; (case hd => rfl); (case hg => rfl); (case hr => exact gs_); intro gb365 hg w6 hbox hb; have BK365 := Aside0.mk (hbox); have GW365 := Aside0.mk ((by rw [hg]; exact (below_size (bl HB)) : w.heap.size ≤ gb365)); have GE365 := Aside0.mk ((by rw [hg]; exact (below_size (bl HB)) : w.heap.size ≤ gb365)); replace HB := Aside0.mk (below_step (bl HB) hb); clear hb hbox hg; have hcz7_0 := ck BK365 0; have hcz7_1 := ck BK365 1; have hfz7_0 := blk_frozen BK365.out 0; have hfz7_1 := blk_frozen BK365.out 1))
   go_ret
   exact ⟨by first | rfl | (simp [errW_none, errW_some] <;> rfl) | (simp [*, errW_none, errW_some] <;> rfl), bl HB⟩
  ·replace c5 := Bool.eq_false_iff.mpr c5
   subst c5
   have H1 : (some 1) = some r := by rw [if_neg (show ¬ (false = true) by decide)] at H; exact H
   clear H
   have H := H1
   clear H1
   obtain rfl := Option.some.inj H
   go_enter Tryd.func52, Tryd.ntmps52
   go_wp2_with (first | ((with_reducible refine gate_dst (N := 1) rfl ?_); refine box_event ?hg (N := 1) ?hd (cs := #[.bool false, .slice A0_1 l0_1.length c0_1]) (t := 61) ?hr ?_; (case hd => rfl); (case hg => rfl); (case hr => exact gs_); intro gb365 hg w8 hbox hb; have BK365 := Aside0.mk (hbox); have GW365 := Aside0.mk ((by rw [hg]; exact (below_size (bl HB)) : w.heap.size ≤ gb365)); have GE365 := Aside0.mk ((by rw [hg]; exact (below_size (bl HB)) : w.heap.size ≤ gb365)); replace HB := Aside0.mk (below_step (bl HB) hb); clear hb hbox hg; have hcz9_0 := ck BK365 0; have hcz9_1 := ck BK365 1; have hfz9_0 := blk_frozen BK365.out 0; have hfz9_1 := blk_frozen BK365.out 1))
   go_ret
   exact ⟨by first | rfl | (simp [errW_none, errW_some] <;> rfl) | (simp [*, errW_none, errW_some] <;> rfl), bl HB⟩

/-! ### pochoirref02_Cmp: function 36 -/
def pochoirref02_Cmp.f (k : Nat) (a0_0 : Bool) (l0_1 : List Int) (a1_0 : Bool) (l1_1 : List Int) : Option (Int) := (pochoirref02_Sub.f k a0_0 l0_1 a1_0 l1_1).bind fun bt368 => ((pochoirref02_Sign.f bt368.1 bt368.2).bind fun t372 => (some t372))
theorem pochoirref02_Cmp.mono : ∀ a0 a1 a2 a3 k, LeO (pochoirref02_Cmp.f k a0 a1 a2 a3) (pochoirref02_Cmp.f (k + 1) a0 a1 a2 a3) := by
 intro a0 a1 a2 a3 k
 unfold pochoirref02_Cmp.f
 repeat' first
   | (with_reducible exact pochoirref02_Sub.mono _ _ _ _ _)
   | (with_reducible exact LeO.refl _)
   | (with_reducible exact LeO.none _)
   | (with_reducible refine LeO.ite ?_ ?_)
   | (with_reducible refine LeO.bind ?_ (fun _ => ?_))
   | exact pochoirref02_Sub.mono _ _ _ _ _
   | exact LeO.none _
   | refine LeO.ite ?_ ?_
   | refine LeO.bind ?_ (fun _ => ?_)
set_option maxHeartbeats 8000000 in
set_option maxRecDepth 100000 in
theorem pochoirref02_Cmp.calls (k : Nat) (a0_0 : Bool) (A0_1 : Option Addr) (c0_1 : Nat) (l0_1 : List Int) (a1_0 : Bool) (P1_1_ : Nat → Prop) (u9000_ : Value) (l1_1 : List Int) (r : Int) (w0 w : World) (hB : Below w0.heap.size w0 w) (hr0_1 : ∀ W_, Kept w W_ (fun k_ => P1_1_ k_) → Kd.C (Kd.int .u64) W_ A0_1 l0_1.length l0_1) (hc0_1 : l0_1.length ≤ c0_1) (ho1_1 : Kd.R (Kd.int .u64) 45 w w0.heap.size P1_1_ u9000_ l1_1) (h : pochoirref02_Cmp.f k a0_0 l0_1 a1_0 l1_1 = some r) :
  Calls Tryd.prog 36 #[.agg #[.bool a0_0, .slice A0_1 l0_1.length c0_1], .agg #[.bool a1_0, u9000_]] w fun e w' => e = .returned (.int .i64 r) ∧ Below w0.heap.size w0 w' ∧ Kept w w' (fun k_ => P1_1_ k_) := by
 have hu61 := Tryd.underlying61
 have HR0_1 := Aside0.mk hr0_1
 have HC0_1 := Aside0.mk hc0_1
 clear hr0_1 hc0_1
 have HO1_1 := Aside0.mk (show Kd.R (Kd.int .u64) 45 w w0.heap.size (fun k_ => (P1_1_ k_ ∨ w.heap.size ≤ k_)) u9000_ l1_1 from Kd.R_mono ho1_1 (fun k_ hk => (.inl hk)))
 have HK := Aside0.mk (Kept.refl w (fun k_ => P1_1_ k_))
 have HW0 := Aside0.mk hB.size
 have HB := Aside0.mk hB
 clear hB
 have H : ((pochoirref02_Sub.f k a0_0 l0_1 a1_0 l1_1).bind fun bt368 => ((pochoirref02_Sign.f bt368.1 bt368.2).bind fun t372 => (some t372))) = some r := h
 clear h
 replace H := Option.bind_eq_some_iff.mp H
 obtain ⟨⟨t368, t369⟩, A30, H⟩ := H
 replace H : ((pochoirref02_Sign.f t368 t369).bind fun t372 => (some t372)) = some r := H
 have A3 := Aside0.mk A30
 clear A30
 replace H := Option.bind_eq_some_iff.mp H
 obtain ⟨t372, A40, H⟩ := H
 replace H : (some t372) = some r := H
 have A4 := Aside0.mk A40
 clear A40
 obtain rfl := Option.some.inj H
 go_enter Tryd.func36, Tryd.ntmps36
 go_wp2_with (first | ((with_reducible refine gate_dst (N := 2) rfl ?_); refine box_event ?hg (N := 2) ?hd (cs := #[.bool a0_0, .slice A0_1 l0_1.length c0_1]) (t := 61) ?hr ?_; (case hd => rfl); (case hg => rfl); (case hr => exact gs_); intro gb366 hg w5 hbox hb; replace HO1_1 := Aside0.mk (Kd.R_below (by (with_reducible repeat (first | apply Kd.R_alloc | apply Kd.R_drewN | apply Kd.R_drew)); exact HO1_1.out) hb); have BK366 := Aside0.mk (hbox); have GW366 := Aside0.mk ((by rw [hg]; exact (by first | exact HK.out.1 | exact (show Kept w _ (fun k_ => P1_1_ k_) from by repeat (first | (with_reducible first | exact HK.out | apply Kept.alloc | apply Kept.drewN | apply Kept.drew) | exact HK.out)).1) : w.heap.size ≤ gb366)); replace HK := Aside0.mk (Kept.below (S := (fun k_ => P1_1_ k_)) (by repeat (first | (with_reducible first | exact HK.out | apply Kept.alloc | apply Kept.drewN | apply Kept.drew) | exact HK.out)) hb); have GE366 := Aside0.mk ((by rw [hg]; exact (below_size (bl HB)) : w0.heap.size ≤ gb366)); replace HB := Aside0.mk (below_step (bl HB) hb); clear hb hbox hg; obtain ⟨Ao6, co6, eo6⟩ := Kd.R_slice HO1_1.out; subst eo6) | ((with_reducible refine gate_dst (N := 3) rfl ?_); refine box_event ?hg (N := 3) ?hd (cs := #[.bool a1_0, .slice Ao6 l1_1.length co6]) (t := 61) ?hr ?_; (case hd => rfl); (case hg => rfl); (case hr => exact gs_); intro gb367 hg w7 hbox hb; replace HO1_1 := Aside0.mk (Kd.R_below (by (with_reducible repeat (first | apply Kd.R_alloc | apply Kd.R_drewN | apply Kd.R_drew)); exact HO1_1.out) hb); have BK367 := Aside0.mk (hbox); have GW367 := Aside0.mk ((by rw [hg]; exact (by first | exact HK.out.1 | exact (show Kept w _ (fun k_ => P1_1_ k_) from by repeat (first | (with_reducible first | exact HK.out | apply Kept.alloc | apply Kept.drewN | apply Kept.drew | refine Kept.setCell ?_ (.inr GW366.out) _) | exact HK.out)).1) : w.heap.size ≤ gb367)); replace HK := Aside0.mk (Kept.below (S := (fun k_ => P1_1_ k_)) (by repeat (first | (with_reducible first | exact HK.out | apply Kept.alloc | apply Kept.drewN | apply Kept.drew | refine Kept.setCell ?_ (.inr GW366.out) _) | exact HK.out)) hb); have GE367 := Aside0.mk ((by rw [hg]; exact (below_size (bl HB)) : w0.heap.size ≤ gb367)); replace HB := Aside0.mk (below_step (bl HB) hb); have NB366_367 := Aside0.mk ((by rw [hg]; exact Nat.ne_of_lt (blk_lt (kb BK366)) : gb366 ≠ gb367)); have NB367_366 := Aside0.mk ((by rw [hg]; exact Nat.ne_of_gt (blk_lt (kb BK366)) : gb367 ≠ gb366)); replace BK366 := Aside0.mk (blk_below (kb BK366) hb); clear hb hbox hg; have hnb8 := NB366_367.out; have hnc8 := NB367_366.out; have hcz9_0 := ck BK366 0; have hcz9_1 := ck BK366 1; have hfz9_0 := blk_frozen BK366.out 0; have hfz9_1 := blk_frozen BK366.out 1; have hcz10_0 := ck BK367 0; have hcz10_1 := ck BK367 1; have hfz10_0 := blk_frozen BK367.out 0; have hfz10_1 := blk_frozen BK367.out 1) | ((with_reducible refine gate_callee (f := 38) rfl ?_); refine goesL_ (some 7) rfl rfl Tryd.func38 (by kernel_rfl) rfl #[.agg #[.bool a0_0, .slice A0_1 l0_1.length c0_1], .agg #[.bool a1_0, .slice Ao6 l1_1.length co6]] rfl gm_ ?_; (with_reducible refine (pochoirref02_Sub.calls k a0_0 _ _ l0_1 a1_0 (fun k_ => some k_ = (.slice Ao6 l1_1.length co6 : Value).ownBlock) (.slice Ao6 l1_1.length co6) l1_1 t368 t369 w0 _ ?side1 ?side2 ?side3 ?side4 A3.out).mono ?_); (case side1 => exact bl HB); (case side2 => exact Kd.C_kept_call HR0_1.out (by repeat (first | (with_reducible first | exact HK.out | apply Kept.alloc | apply Kept.drewN | apply Kept.drew | refine Kept.setCell ?_ (.inr GW366.out) _ | refine Kept.setCell ?_ (.inr GW367.out) _) | exact HK.out)) (fun k_ hs_ => (fun e_ => (HO1_1.out.1 k_ e_.symm)) hs_)); (case side3 => exact HC0_1.out); (case side4 => exact Kd.R_tight rfl HO1_1.out); rintro e w11 ⟨v370, rfl, ho0, hb, hkp⟩; refine ⟨_, rfl, ?_⟩; replace BK366 := Aside0.mk (blk_kept (kb BK366) hkp (fun hs_ => (fun e_ => (Kd.R_ne HO1_1.out BK366.out (by decide)) e_) hs_)); replace BK367 := Aside0.mk (blk_kept (kb BK367) hkp (fun hs_ => (fun e_ => (Kd.R_ne HO1_1.out BK367.out (by decide)) e_) hs_)); have HO371 := Aside0.mk (Kd.R_mono (ok' := fun k_ => (P1_1_ k_ ∨ w.heap.size ≤ k_)) ho0 (fun k_ hk_ => Or.elim hk_ (fun hs_ => (HO1_1.out.1 k_ (hs_).symm)) (fun hn_ => (.inr (Nat.le_trans (by first | exact HK.out.1 | exact (show Kept w _ (fun k_ => P1_1_ k_) from by repeat (first | (with_reducible first | exact HK.out | apply Kept.alloc | apply Kept.drewN | apply Kept.drew | refine Kept.setCell ?_ (.inr GW366.out) _ | refine Kept.setCell ?_ (.inr GW367.out) _) | exact HK.out)).1) hn_))))); replace HK := Aside0.mk (Kept.then_ (S := (fun k_ => P1_1_ k_)) (by repeat (first | (with_reducible first | exact HK.out | apply Kept.alloc | apply Kept.drewN | apply Kept.drew | refine Kept.setCell ?_ (.inr GW366.out) _ | refine Kept.setCell ?_ (.inr GW367.out) _) | exact HK.out)) hkp (fun k_ hs_ => (fun e_ => (HO1_1.out.1 k_ e_.symm)) hs_)); replace HB := Aside0.mk (hb); clear HO1_1; (try clear hb); (try clear hkp); (try clear ho0); obtain ⟨Ao12, co12, eo12⟩ := Kd.R_slice HO371.out; subst eo12) | ((with_reducible refine gate_callee (f := 52) rfl ?_); refine goesL_ (some 8) rfl rfl Tryd.func52 (by kernel_rfl) rfl #[.agg #[.bool t368, .slice Ao12 t369.length co12]] rfl gm_ ?_; (with_reducible refine (pochoirref02_Sign.calls t368 _ _ t369 t372 _ ?side1 ?side2 A4.out).mono ?_); (case side1 => repeat (first | exact (Kd.R_reads' HO371.out).2.2 | (with_reducible refine Kd.C_alloc ?_ _) | (with_reducible refine Kd.C_drewN ?_ _) | (with_reducible refine Kd.C_drew ?_))); (case side2 => exact (Kd.R_reads' HO371.out).2.1); rintro e w13 ⟨rfl, hb⟩; refine ⟨_, rfl, ?_⟩; replace HO371 := Aside0.mk (Kd.R_below (by (with_reducible repeat (first | apply Kd.R_alloc | apply Kd.R_drewN | apply Kd.R_drew)); exact HO371.out) hb); replace BK366 := Aside0.mk (blk_below (kb BK366) hb); replace BK367 := Aside0.mk (blk_below (kb BK367) hb); replace HK := Aside0.mk (Kept.below (S := (fun k_ => P1_1_ k_)) (by repeat (first | (with_reducible first | exact HK.out | apply Kept.alloc | apply Kept.drewN | apply Kept.drew | refine Kept.setCell ?_ (.inr GW366.out) _ | refine Kept.setCell ?_ (.inr GW367.out) _) | exact HK.out)) hb); replace HB := Aside0.mk (below_step (bl HB) hb); (try clear hb); (try clear hb2); (try clear hk); (try clear hi)))
 go_ret
 exact ⟨by first | rfl | (simp [errW_none, errW_some] <;> rfl) | (simp [*, errW_none, errW_some] <;> rfl), by repeat (first | (with_reducible first | exact HB.out | apply below_alloc | apply pw_below_drewN | apply below_drew1 | refine below_set ?_ GE366.out | refine below_set ?_ GE367.out) | exact HB.out), by repeat (first | (with_reducible first | exact HK.out | apply Kept.alloc | apply Kept.drewN | apply Kept.drew | refine Kept.setCell ?_ (.inr GW366.out) _ | refine Kept.setCell ?_ (.inr GW367.out) _) | exact HK.out)⟩

/-! ### pochoirref02_Of: function 39 -/
def pochoirref02_Of.f (k : Nat) (a0 : Int) : Option (Bool × List Int) := if a0 < 0 then ((pochoirref02_norm.f k true (([Int.tmod (IntKind.u64.wrap (-(IntKind.u64.wrap (a0)))) 65536, Int.tmod (IntKind.u64.wrap (Int.tdiv (IntKind.u64.wrap (-(IntKind.u64.wrap (a0)))) 65536)) 65536, Int.tmod (IntKind.u64.wrap (Int.tdiv (IntKind.u64.wrap (-(IntKind.u64.wrap (a0)))) 4294967296)) 65536, IntKind.u64.wrap (Int.tdiv (IntKind.u64.wrap (-(IntKind.u64.wrap (a0)))) 281474976710656)] : List Int))).bind fun bt377 => (some (bt377.1, bt377.2))) else ((pochoirref02_norm.f k false (([Int.tmod (IntKind.u64.wrap (a0)) 65536, Int.tmod (IntKind.u64.wrap (Int.tdiv (IntKind.u64.wrap (a0)) 65536)) 65536, Int.tmod (IntKind.u64.wrap (Int.tdiv (IntKind.u64.wrap (a0)) 4294967296)) 65536, IntKind.u64.wrap (Int.tdiv (IntKind.u64.wrap (a0)) 281474976710656)] : List Int))).bind fun bt384 => (some (bt384.1, bt384.2)))
theorem pochoirref02_Of.mono : ∀ a0 k, LeO (pochoirref02_Of.f k a0) (pochoirref02_Of.f (k + 1) a0) := by
 intro a0 k
 unfold pochoirref02_Of.f
 repeat' first
   | (with_reducible exact pochoirref02_norm.mono _ _ _)
   | (with_reducible exact LeO.refl _)
   | (with_reducible exact LeO.none _)
   | (with_reducible refine LeO.ite ?_ ?_)
   | (with_reducible refine LeO.bind ?_ (fun _ => ?_))
   | exact pochoirref02_norm.mono _ _ _
   | exact LeO.none _
   | refine LeO.ite ?_ ?_
   | refine LeO.bind ?_ (fun _ => ?_)
set_option maxHeartbeats 8000000 in
set_option maxRecDepth 100000 in
theorem pochoirref02_Of.calls (k : Nat) (a0 : Int) (r1 : Bool) (r2 : List Int) (w : World) (h : pochoirref02_Of.f k a0 = some (r1, r2)) :
  Calls Tryd.prog 39 #[.int .i64 a0] w fun e w' => ∃ v1_ : Value, e = .returned (.agg #[.bool r1, v1_]) ∧ Kd.R (Kd.int .u64) 45 w' w.heap.size (fun _ => True) v1_ r2 ∧ Below w.heap.size w w' := by
 have hu61 := Tryd.underlying61
 have HB := Aside0.mk (Below.refl w.heap.size w)
 have H : (if a0 < 0 then ((pochoirref02_norm.f k true (([Int.tmod (IntKind.u64.wrap (-(IntKind.u64.wrap (a0)))) 65536, Int.tmod (IntKind.u64.wrap (Int.tdiv (IntKind.u64.wrap (-(IntKind.u64.wrap (a0)))) 65536)) 65536, Int.tmod (IntKind.u64.wrap (Int.tdiv (IntKind.u64.wrap (-(IntKind.u64.wrap (a0)))) 4294967296)) 65536, IntKind.u64.wrap (Int.tdiv (IntKind.u64.wrap (-(IntKind.u64.wrap (a0)))) 281474976710656)] : List Int))).bind fun bt377 => (some (bt377.1, bt377.2))) else ((pochoirref02_norm.f k false (([Int.tmod (IntKind.u64.wrap (a0)) 65536, Int.tmod (IntKind.u64.wrap (Int.tdiv (IntKind.u64.wrap (a0)) 65536)) 65536, Int.tmod (IntKind.u64.wrap (Int.tdiv (IntKind.u64.wrap (a0)) 4294967296)) 65536, IntKind.u64.wrap (Int.tdiv (IntKind.u64.wrap (a0)) 281474976710656)] : List Int))).bind fun bt384 => (some (bt384.1, bt384.2)))) = some (r1, r2) := h
 clear h
 by_cases c2 : a0 < 0
 ·rw [if_pos c2] at H
  have c2b0 : decide (a0 < 0) = true := decide_eq_true c2
  clear c2
  obtain ⟨y374, hy374⟩ : ∃ y_ : List Int, y_ = (([Int.tmod (IntKind.u64.wrap (-(IntKind.u64.wrap (a0)))) 65536, Int.tmod (IntKind.u64.wrap (Int.tdiv (IntKind.u64.wrap (-(IntKind.u64.wrap (a0)))) 65536)) 65536, Int.tmod (IntKind.u64.wrap (Int.tdiv (IntKind.u64.wrap (-(IntKind.u64.wrap (a0)))) 4294967296)) 65536, IntKind.u64.wrap (Int.tdiv (IntKind.u64.wrap (-(IntKind.u64.wrap (a0)))) 281474976710656)] : List Int)) := ⟨_, rfl⟩
  replace H : ((pochoirref02_norm.f k true y374).bind fun bt377 => (some (bt377.1, bt377.2))) = some (r1, r2) := by first | (rw [hy374]; with_reducible exact H) | (have H2_ := (Option.bind_some _ _).symm.trans H; rw [hy374]; with_reducible exact H2_) | (have H2_ := (Option.bind_some _ _).symm.trans H; with_reducible exact H2_) | with_reducible exact H | (rw [hy374]; exact H) | exact H
  have Ny374 := Aside0.mk hy374
  clear hy374
  replace H := Option.bind_eq_some_iff.mp H
  obtain ⟨⟨t377, t378⟩, A30, H⟩ := H
  replace H : (some (t377, t378)) = some (r1, r2) := H
  have A3 := Aside0.mk A30
  clear A30
  simp only [Option.some.injEq, Prod.mk.injEq] at H
  obtain ⟨rfl, rfl⟩ := H
  go_enter Tryd.func39, Tryd.ntmps39
  go_wp2_with (first | ((with_reducible refine gate_dst (N := 2) rfl ?_); refine box_event ?hg (N := 2) ?hd (cs := #[.bool false, .slice none 0 0]) (t := 61) ?hr ?_; (case hd => rfl); (case hg => rfl); (case hr => exact gs_); intro gb373 hg w4 hbox hb; have BK373 := Aside0.mk (hbox); have GW373 := Aside0.mk ((by rw [hg]; exact (below_size (bl HB)) : w.heap.size ≤ gb373)); have GE373 := Aside0.mk ((by rw [hg]; exact (below_size (bl HB)) : w.heap.size ≤ gb373)); replace HB := Aside0.mk (below_step (bl HB) hb); clear hb hbox hg) | ((with_reducible refine gate_dst (N := 22) rfl ?_); refine Kd.R_lit (Kd.int .u64) _ 45 ?hg (N := 22) ?hd (xs := ([Int.tmod (IntKind.u64.wrap (-(IntKind.u64.wrap (a0)))) 65536, Int.tmod (IntKind.u64.wrap (Int.tdiv (IntKind.u64.wrap (-(IntKind.u64.wrap (a0)))) 65536)) 65536, Int.tmod (IntKind.u64.wrap (Int.tdiv (IntKind.u64.wrap (-(IntKind.u64.wrap (a0)))) 4294967296)) 65536, IntKind.u64.wrap (Int.tdiv (IntKind.u64.wrap (-(IntKind.u64.wrap (a0)))) 281474976710656)] : List Int)) (inner := [.int .u64 (Int.tmod (IntKind.u64.wrap (-(IntKind.u64.wrap (a0)))) 65536), .int .u64 (Int.tmod (IntKind.u64.wrap (Int.tdiv (IntKind.u64.wrap (-(IntKind.u64.wrap (a0)))) 65536)) 65536), .int .u64 (Int.tmod (IntKind.u64.wrap (Int.tdiv (IntKind.u64.wrap (-(IntKind.u64.wrap (a0)))) 4294967296)) 65536), .int .u64 (IntKind.u64.wrap (Int.tdiv (IntKind.u64.wrap (-(IntKind.u64.wrap (a0)))) 281474976710656))]) (ok := fun _ => True) (okp := fun _ => True) ?hr ?hp (fun _ hk => hk) trivial (Below.refl _ _) (Nat.le_refl _) (by simp) ?_; (case hd => rfl); (case hg => rfl); (case hr => exact gs_); (case hp => exact (Reps.one (show Kd.M (Kd.int .u64) _ _ _ (Int.tmod (IntKind.u64.wrap (-(IntKind.u64.wrap (a0)))) 65536) [.int .u64 (Int.tmod (IntKind.u64.wrap (-(IntKind.u64.wrap (a0)))) 65536)] from rfl) (Reps.one (show Kd.M (Kd.int .u64) _ _ _ (Int.tmod (IntKind.u64.wrap (Int.tdiv (IntKind.u64.wrap (-(IntKind.u64.wrap (a0)))) 65536)) 65536) [.int .u64 (Int.tmod (IntKind.u64.wrap (Int.tdiv (IntKind.u64.wrap (-(IntKind.u64.wrap (a0)))) 65536)) 65536)] from rfl) (Reps.one (show Kd.M (Kd.int .u64) _ _ _ (Int.tmod (IntKind.u64.wrap (Int.tdiv (IntKind.u64.wrap (-(IntKind.u64.wrap (a0)))) 4294967296)) 65536) [.int .u64 (Int.tmod (IntKind.u64.wrap (Int.tdiv (IntKind.u64.wrap (-(IntKind.u64.wrap (a0)))) 4294967296)) 65536)] from rfl) (Reps.one (show Kd.M (Kd.int .u64) _ _ _ (IntKind.u64.wrap (Int.tdiv (IntKind.u64.wrap (-(IntKind.u64.wrap (a0)))) 281474976710656)) [.int .u64 (IntKind.u64.wrap (Int.tdiv (IntKind.u64.wrap (-(IntKind.u64.wrap (a0)))) 281474976710656))] from rfl) (Reps.none _ _)))))); intro v375 w5 ho6 hb hg_ hnew_; clear hg_ hnew_; (first | rw [← Ny374.out] at ho6 | (simp only [Int.reduceToNat] at ho6; rw [← Ny374.out] at ho6)); have HO376 := Aside0.mk (Kd.R_lower ho6 (below_size (bl HB))); replace BK373 := Aside0.mk (blk_below (kb BK373) hb); replace HB := Aside0.mk (below_step (bl HB) hb); clear hb ho6; obtain ⟨Ao7, co7, eo7⟩ := Kd.R_slice HO376.out; subst eo7) | ((with_reducible refine gate_callee (f := 55) rfl ?_); refine goesL_ (some 23) rfl rfl Tryd.func55 (by kernel_rfl) rfl #[.bool true, .slice Ao7 y374.length co7] rfl gm_ ?_; (with_reducible refine (pochoirref02_norm.calls k true (fun k_ => some k_ = (.slice Ao7 y374.length co7 : Value).ownBlock) (.slice Ao7 y374.length co7) y374 t377 t378 w _ ?side1 ?side2 A3.out).mono ?_); (case side1 => exact bl HB); (case side2 => exact Kd.R_tight rfl HO376.out); rintro e w8 ⟨v379, rfl, ho0, hb, hkp⟩; refine ⟨_, rfl, ?_⟩; replace BK373 := Aside0.mk (blk_kept (kb BK373) hkp (fun hs_ => (fun e_ => (Kd.R_ne HO376.out BK373.out (by decide)) e_) hs_)); have HO380 := Aside0.mk (Kd.R_mono (ok' := fun k_ => True) ho0 (fun k_ hk_ => trivial)); replace HB := Aside0.mk (hb); clear HO376; (try clear hb); (try clear hkp); (try clear ho0); have hcz9_0 := ck BK373 0; have hcz9_1 := ck BK373 1; have hfz9_0 := blk_frozen BK373.out 0; have hfz9_1 := blk_frozen BK373.out 1; obtain ⟨Ao10, co10, eo10⟩ := Kd.R_slice HO380.out; subst eo10))
  refine bodyPost_ret (results_cell_row rfl _ _ gb373 61 #[.bool t377, .slice Ao10 t378.length co10] (0, 0) _ rfl (by (with_reducible repeat (first | refine blk_drewN ?_ _ | refine blk_drew ?_ | refine blk_alloc ?_ _)); refine blk_put (cs := #[.bool t377, .slice none 0 0]) ?_ 1 _ rfl; (with_reducible repeat (first | refine blk_drewN ?_ _ | refine blk_drew ?_ | refine blk_alloc ?_ _)); refine blk_put (cs := #[.bool false, .slice none 0 0]) ?_ 0 _ rfl; (with_reducible repeat (first | refine blk_drewN ?_ _ | refine blk_drew ?_ | refine blk_alloc ?_ _)); exact BK373.out) Tryd.underlying61 rfl (by kernel_rfl)) rfl ?_
  exact ⟨_, by first | rfl | (simp [errW_none, errW_some] <;> rfl) | (simp [*, errW_none, errW_some] <;> rfl), by (with_reducible repeat (first | apply Kd.R_alloc | apply Kd.R_drewN | apply Kd.R_drew)); exact Kd.R_mono (Kd.R_far (p := ⟨gb373, 1, none⟩) (Kd.R_far (p := ⟨gb373, 0, none⟩) (Kd.R_types HO380.out BK373.out (by decide)) (fun _ hk => hk.2) (.bool t377)) (fun _ hk => hk.2) (.slice Ao10 t378.length co10)) (fun _ hk => trivial), bl HB⟩
 ·rw [if_neg c2] at H
  have c2b0 : decide (a0 < 0) = false := decide_eq_false c2
  clear c2
  obtain ⟨y381, hy381⟩ : ∃ y_ : List Int, y_ = (([Int.tmod (IntKind.u64.wrap (a0)) 65536, Int.tmod (IntKind.u64.wrap (Int.tdiv (IntKind.u64.wrap (a0)) 65536)) 65536, Int.tmod (IntKind.u64.wrap (Int.tdiv (IntKind.u64.wrap (a0)) 4294967296)) 65536, IntKind.u64.wrap (Int.tdiv (IntKind.u64.wrap (a0)) 281474976710656)] : List Int)) := ⟨_, rfl⟩
  replace H : ((pochoirref02_norm.f k false y381).bind fun bt384 => (some (bt384.1, bt384.2))) = some (r1, r2) := by first | (rw [hy381]; with_reducible exact H) | (have H2_ := (Option.bind_some _ _).symm.trans H; rw [hy381]; with_reducible exact H2_) | (have H2_ := (Option.bind_some _ _).symm.trans H; with_reducible exact H2_) | with_reducible exact H | (rw [hy381]; exact H) | exact H
  have Ny381 := Aside0.mk hy381
  clear hy381
  replace H := Option.bind_eq_some_iff.mp H
  obtain ⟨⟨t384, t385⟩, A110, H⟩ := H
  replace H : (some (t384, t385)) = some (r1, r2) := H
  have A11 := Aside0.mk A110
  clear A110
  simp only [Option.some.injEq, Prod.mk.injEq] at H
  obtain ⟨rfl, rfl⟩ := H
  go_enter Tryd.func39, Tryd.ntmps39
  go_wp2_with (first | ((with_reducible refine gate_dst (N := 2) rfl ?_); refine box_event ?hg (N := 2) ?hd (cs := #[.bool false, .slice none 0 0]) (t := 61) ?hr ?_; (case hd => rfl); (case hg => rfl); (case hr => exact gs_); intro gb373 hg w12 hbox hb; have BK373 := Aside0.mk (hbox); have GW373 := Aside0.mk ((by rw [hg]; exact (below_size (bl HB)) : w.heap.size ≤ gb373)); have GE373 := Aside0.mk ((by rw [hg]; exact (below_size (bl HB)) : w.heap.size ≤ gb373)); replace HB := Aside0.mk (below_step (bl HB) hb); clear hb hbox hg) | ((with_reducible refine gate_dst (N := 22) rfl ?_); refine Kd.R_lit (Kd.int .u64) _ 45 ?hg (N := 22) ?hd (xs := ([Int.tmod (IntKind.u64.wrap (a0)) 65536, Int.tmod (IntKind.u64.wrap (Int.tdiv (IntKind.u64.wrap (a0)) 65536)) 65536, Int.tmod (IntKind.u64.wrap (Int.tdiv (IntKind.u64.wrap (a0)) 4294967296)) 65536, IntKind.u64.wrap (Int.tdiv (IntKind.u64.wrap (a0)) 281474976710656)] : List Int)) (inner := [.int .u64 (Int.tmod (IntKind.u64.wrap (a0)) 65536), .int .u64 (Int.tmod (IntKind.u64.wrap (Int.tdiv (IntKind.u64.wrap (a0)) 65536)) 65536), .int .u64 (Int.tmod (IntKind.u64.wrap (Int.tdiv (IntKind.u64.wrap (a0)) 4294967296)) 65536), .int .u64 (IntKind.u64.wrap (Int.tdiv (IntKind.u64.wrap (a0)) 281474976710656))]) (ok := fun _ => True) (okp := fun _ => True) ?hr ?hp (fun _ hk => hk) trivial (Below.refl _ _) (Nat.le_refl _) (by simp) ?_; (case hd => rfl); (case hg => rfl); (case hr => exact gs_); (case hp => exact (Reps.one (show Kd.M (Kd.int .u64) _ _ _ (Int.tmod (IntKind.u64.wrap (a0)) 65536) [.int .u64 (Int.tmod (IntKind.u64.wrap (a0)) 65536)] from rfl) (Reps.one (show Kd.M (Kd.int .u64) _ _ _ (Int.tmod (IntKind.u64.wrap (Int.tdiv (IntKind.u64.wrap (a0)) 65536)) 65536) [.int .u64 (Int.tmod (IntKind.u64.wrap (Int.tdiv (IntKind.u64.wrap (a0)) 65536)) 65536)] from rfl) (Reps.one (show Kd.M (Kd.int .u64) _ _ _ (Int.tmod (IntKind.u64.wrap (Int.tdiv (IntKind.u64.wrap (a0)) 4294967296)) 65536) [.int .u64 (Int.tmod (IntKind.u64.wrap (Int.tdiv (IntKind.u64.wrap (a0)) 4294967296)) 65536)] from rfl) (Reps.one (show Kd.M (Kd.int .u64) _ _ _ (IntKind.u64.wrap (Int.tdiv (IntKind.u64.wrap (a0)) 281474976710656)) [.int .u64 (IntKind.u64.wrap (Int.tdiv (IntKind.u64.wrap (a0)) 281474976710656))] from rfl) (Reps.none _ _)))))); intro v382 w13 ho14 hb hg_ hnew_; clear hg_ hnew_; (first | rw [← Ny381.out] at ho14 | (simp only [Int.reduceToNat] at ho14; rw [← Ny381.out] at ho14)); have HO383 := Aside0.mk (Kd.R_lower ho14 (below_size (bl HB))); replace BK373 := Aside0.mk (blk_below (kb BK373) hb); replace HB := Aside0.mk (below_step (bl HB) hb); clear hb ho14; obtain ⟨Ao15, co15, eo15⟩ := Kd.R_slice HO383.out; subst eo15) | ((with_reducible refine gate_callee (f := 55) rfl ?_); refine goesL_ (some 23) rfl rfl Tryd.func55 (by kernel_rfl) rfl #[.bool false, .slice Ao15 y381.length co15] rfl gm_ ?_; (with_reducible refine (pochoirref02_norm.calls k false (fun k_ => some k_ = (.slice Ao15 y381.length co15 : Value).ownBlock) (.slice Ao15 y381.length co15) y381 t384 t385 w _ ?side1 ?side2 A11.out).mono ?_); (case side1 => exact bl HB); (case side2 => exact Kd.R_tight rfl HO383.out); rintro e w16 ⟨v386, rfl, ho0, hb, hkp⟩; refine ⟨_, rfl, ?_⟩; replace BK373 := Aside0.mk (blk_kept (kb BK373) hkp (fun hs_ => (fun e_ => (Kd.R_ne HO383.out BK373.out (by decide)) e_) hs_)); have HO387 := Aside0.mk (Kd.R_mono (ok' := fun k_ => True) ho0 (fun k_ hk_ => trivial)); replace HB := Aside0.mk (hb); clear HO383; (try clear hb); (try clear hkp); (try clear ho0); have hcz17_0 := ck BK373 0; have hcz17_1 := ck BK373 1; have hfz17_0 := blk_frozen BK373.out 0; have hfz17_1 := blk_frozen BK373.out 1; obtain ⟨Ao18, co18, eo18⟩ := Kd.R_slice HO387.out; subst eo18))
  refine bodyPost_ret (results_cell_row rfl _ _ gb373 61 #[.bool t384, .slice Ao18 t385.length co18] (0, 0) _ rfl (by (with_reducible repeat (first | refine blk_drewN ?_ _ | refine blk_drew ?_ | refine blk_alloc ?_ _)); refine blk_put (cs := #[.bool t384, .slice none 0 0]) ?_ 1 _ rfl; (with_reducible repeat (first | refine blk_drewN ?_ _ | refine blk_drew ?_ | refine blk_alloc ?_ _)); refine blk_put (cs := #[.bool false, .slice none 0 0]) ?_ 0 _ rfl; (with_reducible repeat (first | refine blk_drewN ?_ _ | refine blk_drew ?_ | refine blk_alloc ?_ _)); exact BK373.out) Tryd.underlying61 rfl (by kernel_rfl)) rfl ?_
  exact ⟨_, by first | rfl | (simp [errW_none, errW_some] <;> rfl) | (simp [*, errW_none, errW_some] <;> rfl), by (with_reducible repeat (first | apply Kd.R_alloc | apply Kd.R_drewN | apply Kd.R_drew)); exact Kd.R_mono (Kd.R_far (p := ⟨gb373, 1, none⟩) (Kd.R_far (p := ⟨gb373, 0, none⟩) (Kd.R_types HO387.out BK373.out (by decide)) (fun _ hk => hk.2) (.bool t384)) (fun _ hk => hk.2) (.slice Ao18 t385.length co18)) (fun _ hk => trivial), bl HB⟩

end Go.Proofs.YtglcjhjmncolpaaDoor.Q
