-- Written for this claim by a program of the session (wip/print2). Not trusted: Lean checks it.
import Derived.Test.YtglcjhjmncolpaaDoorQx0
import Derived.Test.YtglcjhjmncolpaaDoorQx14
import Derived.Test.YtglcjhjmncolpaaDoorQx17
import Derived.Test.YtglcjhjmncolpaaDoorQx18
namespace Go.Proofs.YtglcjhjmncolpaaDoor.Q
open Go.RowKit Go.Proofs.YtglcjhjmncolpaaDoorW.PrintWords Go.Proofs.YtglcjhjmncolpaaDoorW.PrintLast Go.Proofs.YtglcjhjmncolpaaDoorW.PrintMore
attribute [local go_sem] max2_int min2_int max_two min_two max_three min_three max_four min_four   -- for this text's walks alone
set_option linter.unusedVariables false
set_option linter.unusedSimpArgs false

/-! ### pochoirref03_Cmp: function 12 -/
def pochoirref03_Cmp.f (k : Nat) (a0_0 : Int) (a0_1 : Int) (a1_0 : Int) (a1_1 : Int) : Option (Int × Int) := (pochoirref03_both.f k a0_0 a0_1 a1_0 a1_1).bind fun t421 => (if t421 = true then ((pochoirref03_times.f k a0_0 a1_1).bind fun bt422 => ((pochoirref03_times.f k a1_0 a0_1).bind fun bt426 => ((pochoirref02_Cmp.f k bt422.1 bt422.2 bt426.1 bt426.2).bind fun t430 => (some (t430, 0))))) else (some (0, 1)))
theorem pochoirref03_Cmp.mono : ∀ a0 a1 a2 a3 k, LeO (pochoirref03_Cmp.f k a0 a1 a2 a3) (pochoirref03_Cmp.f (k + 1) a0 a1 a2 a3) := by
 intro a0 a1 a2 a3 k
 unfold pochoirref03_Cmp.f
 repeat' first
   | (with_reducible exact pochoirref02_Cmp.mono _ _ _ _ _)
   | (with_reducible exact pochoirref03_both.mono _ _ _ _ _)
   | (with_reducible exact pochoirref03_times.mono _ _ _)
   | (with_reducible exact LeO.refl _)
   | (with_reducible exact LeO.none _)
   | (with_reducible refine LeO.ite ?_ ?_)
   | (with_reducible refine LeO.bind ?_ (fun _ => ?_))
   | exact pochoirref02_Cmp.mono _ _ _ _ _
   | exact pochoirref03_both.mono _ _ _ _ _
   | exact pochoirref03_times.mono _ _ _
   | exact LeO.none _
   | refine LeO.ite ?_ ?_
   | refine LeO.bind ?_ (fun _ => ?_)
def pochoirref03_Cmp.T3 : Bool × List (List Nat × List Nat) := (true, [([], []), ([0], [0]), ([], []), ([2], [2]), ([1, 3], [1, 3]), ([], []), ([5], [5]), ([], []), ([7], [7]), ([6, 8, 4], [6, 8]), ([4, 9, 9], [4, 9]), ([10, 10, 0, 1, 2, 3, 4, 5, 6, 7, 8, 9, 10], [10]), ([11, 0, 1, 2, 3, 4, 5, 6, 7, 8, 9, 10, 11], [])])
def pochoirref03_Cmp.B3 : List Nat := [0, 1, 0, 4, 15, 0, 32, 0, 128, 511, 1023, 2047, 4095]
theorem pochoirref03_Cmp.tab3 : rtab .any (opsOf Tryd.f12 3) = pochoirref03_Cmp.T3 := by kernel_rfl
theorem pochoirref03_Cmp.bits3 : waitsOk pochoirref03_Cmp.T3.2 pochoirref03_Cmp.B3 = true := by kernel_rfl
set_option maxHeartbeats 8000000 in
set_option maxRecDepth 100000 in
theorem pochoirref03_Cmp.calls (k : Nat) (a0_0 : Int) (a0_1 : Int) (a1_0 : Int) (a1_1 : Int) (r1 : Int) (r2 : Int) (w : World) (h : pochoirref03_Cmp.f k a0_0 a0_1 a1_0 a1_1 = some (r1, r2)) :
  Calls Tryd.prog 12 #[.agg #[.int .i64 a0_0, .int .i64 a0_1], .agg #[.int .i64 a1_0, .int .i64 a1_1]] w fun e w' => e = .returned (.tuple #[.int .i64 r1, .int .i64 r2]) ∧ Below w.heap.size w w' := by
 have hu24 := Tryd.underlying24
 have HB := Aside0.mk (Below.refl w.heap.size w)
 have H : ((pochoirref03_both.f k a0_0 a0_1 a1_0 a1_1).bind fun t421 => (if t421 = true then ((pochoirref03_times.f k a0_0 a1_1).bind fun bt422 => ((pochoirref03_times.f k a1_0 a0_1).bind fun bt426 => ((pochoirref02_Cmp.f k bt422.1 bt422.2 bt426.1 bt426.2).bind fun t430 => (some (t430, 0))))) else (some (0, 1)))) = some (r1, r2) := h
 clear h
 replace H := Option.bind_eq_some_iff.mp H
 obtain ⟨t421, A30, H⟩ := H
 replace H : (if t421 = true then ((pochoirref03_times.f k a0_0 a1_1).bind fun bt422 => ((pochoirref03_times.f k a1_0 a0_1).bind fun bt426 => ((pochoirref02_Cmp.f k bt422.1 bt422.2 bt426.1 bt426.2).bind fun t430 => (some (t430, 0))))) else (some (0, 1))) = some (r1, r2) := H
 have A3 := Aside0.mk A30
 clear A30
 by_cases c4 : t421 = true
 ·subst c4
  have H1 : ((pochoirref03_times.f k a0_0 a1_1).bind fun bt422 => ((pochoirref03_times.f k a1_0 a0_1).bind fun bt426 => ((pochoirref02_Cmp.f k bt422.1 bt422.2 bt426.1 bt426.2).bind fun t430 => (some (t430, 0))))) = some (r1, r2) := by rw [if_pos rfl] at H; exact H
  clear H
  have H := H1
  clear H1
  replace H := Option.bind_eq_some_iff.mp H
  obtain ⟨⟨t422, t423⟩, A50, H⟩ := H
  replace H : ((pochoirref03_times.f k a1_0 a0_1).bind fun bt426 => ((pochoirref02_Cmp.f k t422 t423 bt426.1 bt426.2).bind fun t430 => (some (t430, 0)))) = some (r1, r2) := H
  have A5 := Aside0.mk A50
  clear A50
  replace H := Option.bind_eq_some_iff.mp H
  obtain ⟨⟨t426, t427⟩, A60, H⟩ := H
  replace H : ((pochoirref02_Cmp.f k t422 t423 t426 t427).bind fun t430 => (some (t430, 0))) = some (r1, r2) := H
  have A6 := Aside0.mk A60
  clear A60
  replace H := Option.bind_eq_some_iff.mp H
  obtain ⟨t430, A70, H⟩ := H
  replace H : (some (t430, 0)) = some (r1, r2) := H
  have A7 := Aside0.mk A70
  clear A70
  simp only [Option.some.injEq, Prod.mk.injEq] at H
  obtain ⟨rfl, rfl⟩ := H
  go_enter Tryd.func12, Tryd.ntmps12
  try go_wp2_with (first | ((with_reducible refine gate_dst (N := 2) rfl ?_); refine box_event ?hg (N := 2) ?hd (cs := #[.int .i64 a0_0, .int .i64 a0_1]) (t := 24) ?hr ?_; (case hd => rfl); (case hg => rfl); (case hr => exact gs_); intro gb419 hg w8 hbox hb; have BK419 := Aside0.mk (hbox); have GW419 := Aside0.mk ((by rw [hg]; exact (below_size (bl HB)) : w.heap.size ≤ gb419)); have GE419 := Aside0.mk ((by rw [hg]; exact (below_size (bl HB)) : w.heap.size ≤ gb419)); replace HB := Aside0.mk (below_step (bl HB) hb); clear hb hbox hg) | ((with_reducible refine gate_dst (N := 3) rfl ?_); refine box_event ?hg (N := 3) ?hd (cs := #[.int .i64 a1_0, .int .i64 a1_1]) (t := 24) ?hr ?_; (case hd => rfl); (case hg => rfl); (case hr => exact gs_); intro gb420 hg w9 hbox hb; have BK420 := Aside0.mk (hbox); have GW420 := Aside0.mk ((by rw [hg]; exact (below_size (bl HB)) : w.heap.size ≤ gb420)); have GE420 := Aside0.mk ((by rw [hg]; exact (below_size (bl HB)) : w.heap.size ≤ gb420)); replace HB := Aside0.mk (below_step (bl HB) hb); have NB419_420 := Aside0.mk ((by rw [hg]; exact Nat.ne_of_lt (blk_lt (kb BK419)) : gb419 ≠ gb420)); have NB420_419 := Aside0.mk ((by rw [hg]; exact Nat.ne_of_gt (blk_lt (kb BK419)) : gb420 ≠ gb419)); replace BK419 := Aside0.mk (blk_below (kb BK419) hb); clear hb hbox hg; have hnb10 := NB419_420.out; have hnc10 := NB420_419.out; have hcz11_0 := ck BK419 0; have hcz11_1 := ck BK419 1; have hfz11_0 := blk_frozen BK419.out 0; have hfz11_1 := blk_frozen BK419.out 1; have hcz12_0 := ck BK420 0; have hcz12_1 := ck BK420 1; have hfz12_0 := blk_frozen BK420.out 0; have hfz12_1 := blk_frozen BK420.out 1) | ((with_reducible refine gate_callee (f := 35) rfl ?_); refine goesL_ (some 8) rfl rfl Tryd.func35 (by kernel_rfl) rfl #[.agg #[.int .i64 a0_0, .int .i64 a0_1], .agg #[.int .i64 a1_0, .int .i64 a1_1]] rfl gm_ ?_; (with_reducible refine (pochoirref03_both.calls k a0_0 a0_1 a1_0 a1_1 true _ A3.out).mono ?_); rintro e w13 ⟨rfl, hb⟩; refine ⟨_, rfl, ?_⟩; replace BK419 := Aside0.mk (blk_below (kb BK419) hb); replace BK420 := Aside0.mk (blk_below (kb BK420) hb); replace HB := Aside0.mk (below_step (bl HB) hb); (try clear hb); (try clear hb2); (try clear hk); (try clear hi)))
  replace BK419 := Aside0.mk (blk_drew BK419.out)
  replace BK420 := Aside0.mk (blk_drew BK420.out)
  replace HB := Aside0.mk (below_drew1 HB.out)
  refine start_ (n := 13) (S := fun w' => w'.cell? ⟨gb419, 0, none⟩ = some (.int .i64 a0_0) ∧ w'.cell? ⟨gb419, 1, none⟩ = some (.int .i64 a0_1) ∧ w'.cell? ⟨gb420, 0, none⟩ = some (.int .i64 a1_0) ∧ w'.cell? ⟨gb420, 1, none⟩ = some (.int .i64 a1_1)) (ds := []) #[false, false, false, false, false, false, false, false, false, false, false, false, false] (by kernel_rfl) rfl rfl ⟨ck BK419 0, ck BK419 1, ck BK420 0, ck BK420 1⟩ (fun hHeld => ?_); refine with_tabW pochoirref03_Cmp.tab3 pochoirref03_Cmp.bits3 (fun HT_ HW_ => ?_)
  generalize w13.drew = w14 at BK419 BK420 HB hHeld ⊢
  refine pure_ (i := 0) (N := some 10) (v := ?_) (a' := ?_) #[true, false, false, false, false, false, false, false, false, false, false, false, false] rfl rfl (any_of HT_.out (by kernel_rfl)) (fun _ _ _ h => h) (Or.inl ⟨by rfl, ?_⟩) ?_ ?_
  rotate_left
  ·intro w'
   go_simp
   with_reducible rfl
  rotate_left
  ·simp only [Act.put, List.setIfInBounds_toArray, List.set_cons_zero, List.set_cons_succ, i64_w, i32_w]
   rfl
  refine pure_ (i := 2) (N := some 12) (v := ?_) (a' := ?_) #[true, false, true, false, false, false, false, false, false, false, false, false, false] rfl rfl (any_of HT_.out (by kernel_rfl)) (fun _ _ _ h => h) (Or.inl ⟨by rfl, ?_⟩) ?_ ?_
  rotate_left
  ·intro w'
   go_simp
   with_reducible rfl
  rotate_left
  ·simp only [Act.put, List.setIfInBounds_toArray, List.set_cons_zero, List.set_cons_succ, i64_w, i32_w]
   rfl
  refine pure_ (i := 5) (N := some 15) (v := ?_) (a' := ?_) #[true, false, true, false, false, true, false, false, false, false, false, false, false] rfl rfl (any_of HT_.out (by kernel_rfl)) (fun _ _ _ h => h) (Or.inl ⟨by rfl, ?_⟩) ?_ ?_
  rotate_left
  ·intro w'
   go_simp
   with_reducible rfl
  rotate_left
  ·simp only [Act.put, List.setIfInBounds_toArray, List.set_cons_zero, List.set_cons_succ, i64_w, i32_w]
   rfl
  refine pure_ (i := 7) (N := some 17) (v := ?_) (a' := ?_) #[true, false, true, false, false, true, false, true, false, false, false, false, false] rfl rfl (any_of HT_.out (by kernel_rfl)) (fun _ _ _ h => h) (Or.inl ⟨by rfl, ?_⟩) ?_ ?_
  rotate_left
  ·intro w'
   go_simp
   with_reducible rfl
  rotate_left
  ·simp only [Act.put, List.setIfInBounds_toArray, List.set_cons_zero, List.set_cons_succ, i64_w, i32_w]
   rfl
  refine take_ (i := 1) (N := some 11) (v := ?_) (a' := ?_) #[true, true, true, false, false, true, false, true, false, false, false, false, false] rfl rfl (take_ofW HT_.out HW_.out (by kernel_rfl)) (fun _ _ _ h => h) (Or.inl ⟨by rfl, ?_⟩) hHeld ?_ ?_
  rotate_left
  ·rintro w' ⟨s0, s1, s2, s3⟩
   go_simp
   with_reducible rfl
  rotate_left
  ·simp only [Act.put, List.setIfInBounds_toArray, List.set_cons_zero, List.set_cons_succ, i64_w, i32_w]
   rfl
  refine take_ (i := 3) (N := some 13) (v := ?_) (a' := ?_) #[true, true, true, true, false, true, false, true, false, false, false, false, false] rfl rfl (take_ofW HT_.out HW_.out (by kernel_rfl)) (fun _ _ _ h => h) (Or.inl ⟨by rfl, ?_⟩) hHeld ?_ ?_
  rotate_left
  ·rintro w' ⟨s0, s1, s2, s3⟩
   go_simp
   with_reducible rfl
  rotate_left
  ·simp only [Act.put, List.setIfInBounds_toArray, List.set_cons_zero, List.set_cons_succ, i64_w, i32_w]
   rfl
  refine take_ (i := 6) (N := some 16) (v := ?_) (a' := ?_) #[true, true, true, true, false, true, true, true, false, false, false, false, false] rfl rfl (take_ofW HT_.out HW_.out (by kernel_rfl)) (fun _ _ _ h => h) (Or.inl ⟨by rfl, ?_⟩) hHeld ?_ ?_
  rotate_left
  ·rintro w' ⟨s0, s1, s2, s3⟩
   go_simp
   with_reducible rfl
  rotate_left
  ·simp only [Act.put, List.setIfInBounds_toArray, List.set_cons_zero, List.set_cons_succ, i64_w, i32_w]
   rfl
  refine take_ (i := 8) (N := some 18) (v := ?_) (a' := ?_) #[true, true, true, true, false, true, true, true, true, false, false, false, false] rfl rfl (take_ofW HT_.out HW_.out (by kernel_rfl)) (fun _ _ _ h => h) (Or.inl ⟨by rfl, ?_⟩) hHeld ?_ ?_
  rotate_left
  ·rintro w' ⟨s0, s1, s2, s3⟩
   go_simp
   with_reducible rfl
  rotate_left
  ·simp only [Act.put, List.setIfInBounds_toArray, List.set_cons_zero, List.set_cons_succ, i64_w, i32_w]
   rfl
  refine one_ (i := 4) (N := some 14) #[true, true, true, true, true, true, true, true, true, false, false, false, false] rfl rfl (one_of HT_.out (by kernel_rfl)) (by decide) (fun K hK => ?_)
  refine goes_ Tryd.func37 (by kernel_rfl) rfl #[.int .i64 a0_0, .int .i64 a1_1] (by rfl) rfl rfl gm_ ?_
  with_reducible refine (pochoirref03_times.calls k a0_0 a1_1 t422 t423 _ A5.out).mono ?_
  rintro e w15 ⟨v424, rfl, ho0, hb⟩
  refine ⟨_, rfl, ?_⟩
  have HO425 := Aside0.mk (Kd.R_lower ho0 (below_size (bl HB)))
  replace BK419 := Aside0.mk (blk_below (kb BK419) hb)
  replace BK420 := Aside0.mk (blk_below (kb BK420) hb)
  replace HB := Aside0.mk (below_step (bl HB) hb)
  (try clear hb)
  (try clear hb2)
  (try clear hk)
  (try clear hi)
  (try clear ho0)
  refine hK.out _ _ ⟨ck BK419 0, ck BK419 1, ck BK420 0, ck BK420 1⟩ (fun hHeld => ?_)
  clear hK K
  refine norm_ (a' := ?_) ?_ ?_
  rotate_left
  ·show Act.put _ (some 14) _ = _
   simp only [Act.put, List.setIfInBounds_toArray, List.set_cons_zero, List.set_cons_succ, i64_w, i32_w]
   rfl
  refine one_ (i := 9) (N := some 19) #[true, true, true, true, true, true, true, true, true, true, false, false, false] rfl rfl (one_of HT_.out (by kernel_rfl)) (by decide) (fun K hK => ?_)
  refine goes_ Tryd.func37 (by kernel_rfl) rfl #[.int .i64 a1_0, .int .i64 a0_1] (by rfl) rfl rfl gm_ ?_
  with_reducible refine (pochoirref03_times.calls k a1_0 a0_1 t426 t427 _ A6.out).mono ?_
  rintro e w16 ⟨v428, rfl, ho0, hb⟩
  refine ⟨_, rfl, ?_⟩
  have HO429 := Aside0.mk (Kd.R_lower (Kd.R_new' ho0 (Kd.R_lt (by (with_reducible repeat (first | apply Kd.R_alloc | apply Kd.R_drewN | apply Kd.R_drew)); exact HO425.out))) (below_size (bl HB)))
  replace HO425 := Aside0.mk (Kd.R_elder' (by (with_reducible repeat (first | apply Kd.R_alloc | apply Kd.R_drewN | apply Kd.R_drew)); exact HO425.out) (Kd.R_base ho0) hb)
  replace BK419 := Aside0.mk (blk_below (kb BK419) hb)
  replace BK420 := Aside0.mk (blk_below (kb BK420) hb)
  replace HB := Aside0.mk (below_step (bl HB) hb)
  (try clear hb)
  (try clear hb2)
  (try clear hk)
  (try clear hi)
  (try clear ho0)
  obtain ⟨Ao17, co17, eo17⟩ := Kd.R_slice HO425.out
  (first | subst eo17 | (injection eo17 with f1_ f2_ f3_; have f4_ := f1_.symm; have f5_ := f3_.symm; clear f1_ f2_ f3_; subst f4_; subst f5_))
  obtain ⟨Ao18, co18, eo18⟩ := Kd.R_slice HO429.out
  (first | subst eo18 | (injection eo18 with f1_ f2_ f3_; have f4_ := f1_.symm; have f5_ := f3_.symm; clear f1_ f2_ f3_; subst f4_; subst f5_))
  refine hK.out _ _ ⟨ck BK419 0, ck BK419 1, ck BK420 0, ck BK420 1⟩ (fun hHeld => ?_)
  clear hK K
  refine norm_ (a' := ?_) ?_ ?_
  rotate_left
  ·show Act.put _ (some 19) _ = _
   simp only [Act.put, List.setIfInBounds_toArray, List.set_cons_zero, List.set_cons_succ, i64_w, i32_w]
   rfl
  refine one_ (i := 10) (N := some 20) #[true, true, true, true, true, true, true, true, true, true, true, false, false] rfl rfl (one_of HT_.out (by kernel_rfl)) (by decide) (fun K hK => ?_)
  refine goes_ Tryd.func36 (by kernel_rfl) rfl #[.agg #[.bool t422, .slice Ao17 t423.length co17], .agg #[.bool t426, .slice Ao18 t427.length co18]] (by rfl) rfl rfl gm_ ?_
  with_reducible refine (pochoirref02_Cmp.calls k t422 _ _ t423 t426 (fun k_ => some k_ = (.slice Ao18 t427.length co18 : Value).ownBlock) (.slice Ao18 t427.length co18) t427 t430 w _ ?side1 ?side2 ?side3 ?side4 A7.out).mono ?_
  (case side1 => exact bl HB)
  (case side2 => exact Kd.C_kept_own (HO425.out) (fun k_ hk_ hs_ => (hk_.2) hs_))
  (case side3 => exact (Kd.R_reads' HO425.out).2.1)
  (case side4 => exact Kd.R_tight rfl HO429.out)
  rintro e w19 ⟨rfl, hb, hkp⟩
  refine ⟨_, rfl, ?_⟩
  replace BK419 := Aside0.mk (blk_kept (kb BK419) hkp (fun hs_ => (fun e_ => (Kd.R_ne HO429.out BK419.out (by decide)) e_) hs_))
  replace BK420 := Aside0.mk (blk_kept (kb BK420) hkp (fun hs_ => (fun e_ => (Kd.R_ne HO429.out BK420.out (by decide)) e_) hs_))
  replace HO425 := Aside0.mk (Kd.R_mono (ok' := fun k_ => True) (Kd.R_keptB (HO425.out) hkp (fun k_ hk_ hs_ => (hk_.2) hs_)) (fun k_ hk_ => trivial))
  replace HB := Aside0.mk (hb)
  clear HO429
  (try clear hb)
  (try clear hkp)
  refine hK.out _ _ ⟨ck BK419 0, ck BK419 1, ck BK420 0, ck BK420 1⟩ (fun hHeld => ?_)
  clear hK K
  refine norm_ (a' := ?_) ?_ ?_
  rotate_left
  ·show Act.put _ (some 20) _ = _
   simp only [Act.put, List.setIfInBounds_toArray, List.set_cons_zero, List.set_cons_succ, i64_w, i32_w]
   rfl
  refine pure_ (i := 11) (N := some 4) (v := ?_) (a' := ?_) #[true, true, true, true, true, true, true, true, true, true, true, true, false] rfl rfl (any_of HT_.out (by kernel_rfl)) (fun _ _ _ h => h) (Or.inl ⟨by rfl, ?_⟩) ?_ ?_
  rotate_left
  ·intro w'
   go_simp
   with_reducible rfl
  rotate_left
  ·simp only [Act.put, List.setIfInBounds_toArray, List.set_cons_zero, List.set_cons_succ, i64_w, i32_w]
   rfl
  refine pure_ (i := 12) (N := some 5) (v := ?_) (a' := ?_) #[true, true, true, true, true, true, true, true, true, true, true, true, true] rfl rfl (any_of HT_.out (by kernel_rfl)) (fun _ _ _ h => h) (Or.inl ⟨by rfl, ?_⟩) ?_ ?_
  rotate_left
  ·intro w'
   go_simp
   with_reducible rfl
  rotate_left
  ·simp only [Act.put, List.setIfInBounds_toArray, List.set_cons_zero, List.set_cons_succ, i64_w, i32_w]
   rfl
  refine done_ (done_of HT_.out (by kernel_rfl)) ?_
  try go_wp2
  go_ret2
  exact ⟨by first | rfl | (simp [errW_none, errW_some] <;> rfl) | (simp [*, errW_none, errW_some] <;> rfl), bl HB⟩
 ·replace c4 := Bool.eq_false_iff.mpr c4
  subst c4
  have H1 : (some (0, 1)) = some (r1, r2) := by rw [if_neg (show ¬ (false = true) by decide)] at H; exact H
  clear H
  have H := H1
  clear H1
  simp only [Option.some.injEq, Prod.mk.injEq] at H
  obtain ⟨rfl, rfl⟩ := H
  go_enter Tryd.func12, Tryd.ntmps12
  go_wp2_with (first | ((with_reducible refine gate_dst (N := 2) rfl ?_); refine box_event ?hg (N := 2) ?hd (cs := #[.int .i64 a0_0, .int .i64 a0_1]) (t := 24) ?hr ?_; (case hd => rfl); (case hg => rfl); (case hr => exact gs_); intro gb419 hg w20 hbox hb; have BK419 := Aside0.mk (hbox); have GW419 := Aside0.mk ((by rw [hg]; exact (below_size (bl HB)) : w.heap.size ≤ gb419)); have GE419 := Aside0.mk ((by rw [hg]; exact (below_size (bl HB)) : w.heap.size ≤ gb419)); replace HB := Aside0.mk (below_step (bl HB) hb); clear hb hbox hg) | ((with_reducible refine gate_dst (N := 3) rfl ?_); refine box_event ?hg (N := 3) ?hd (cs := #[.int .i64 a1_0, .int .i64 a1_1]) (t := 24) ?hr ?_; (case hd => rfl); (case hg => rfl); (case hr => exact gs_); intro gb420 hg w21 hbox hb; have BK420 := Aside0.mk (hbox); have GW420 := Aside0.mk ((by rw [hg]; exact (below_size (bl HB)) : w.heap.size ≤ gb420)); have GE420 := Aside0.mk ((by rw [hg]; exact (below_size (bl HB)) : w.heap.size ≤ gb420)); replace HB := Aside0.mk (below_step (bl HB) hb); have NB419_420 := Aside0.mk ((by rw [hg]; exact Nat.ne_of_lt (blk_lt (kb BK419)) : gb419 ≠ gb420)); have NB420_419 := Aside0.mk ((by rw [hg]; exact Nat.ne_of_gt (blk_lt (kb BK419)) : gb420 ≠ gb419)); replace BK419 := Aside0.mk (blk_below (kb BK419) hb); clear hb hbox hg; have hnb22 := NB419_420.out; have hnc22 := NB420_419.out; have hcz23_0 := ck BK419 0; have hcz23_1 := ck BK419 1; have hfz23_0 := blk_frozen BK419.out 0; have hfz23_1 := blk_frozen BK419.out 1; have hcz24_0 := ck BK420 0; have hcz24_1 := ck BK420 1; have hfz24_0 := blk_frozen BK420.out 0; have hfz24_1 := blk_frozen BK420.out 1) | ((with_reducible refine gate_callee (f := 35) rfl ?_); refine goesL_ (some 8) rfl rfl Tryd.func35 (by kernel_rfl) rfl #[.agg #[.int .i64 a0_0, .int .i64 a0_1], .agg #[.int .i64 a1_0, .int .i64 a1_1]] rfl gm_ ?_; (with_reducible refine (pochoirref03_both.calls k a0_0 a0_1 a1_0 a1_1 false _ A3.out).mono ?_); rintro e w25 ⟨rfl, hb⟩; refine ⟨_, rfl, ?_⟩; replace BK419 := Aside0.mk (blk_below (kb BK419) hb); replace BK420 := Aside0.mk (blk_below (kb BK420) hb); replace HB := Aside0.mk (below_step (bl HB) hb); (try clear hb); (try clear hb2); (try clear hk); (try clear hi)))
  go_ret2
  exact ⟨by first | rfl | (simp [errW_none, errW_some] <;> rfl) | (simp [*, errW_none, errW_some] <;> rfl), bl HB⟩

/-! ### pochoirref03_Floor: function 15 -/
def pochoirref03_Floor.f (a0_0 : Int) (a0_1 : Int) : Option (Int) := if a0_1 = 0 then (none) else (if (Int.tmod a0_0 a0_1) < 0 then (some (wrap64 ((wrap64 (Int.tdiv a0_0 a0_1)) - 1))) else (some (wrap64 (Int.tdiv a0_0 a0_1))))
set_option maxHeartbeats 8000000 in
set_option maxRecDepth 100000 in
theorem pochoirref03_Floor.calls (a0_0 : Int) (a0_1 : Int) (r : Int) (w : World) (h : pochoirref03_Floor.f a0_0 a0_1 = some r) :
  Calls Tryd.prog 15 #[.agg #[.int .i64 a0_0, .int .i64 a0_1]] w fun e w' => e = .returned (.int .i64 r) ∧ Below w.heap.size w w' := by
 have hu24 := Tryd.underlying24
 have HB := Aside0.mk (Below.refl w.heap.size w)
 have H : (if a0_1 = 0 then (none) else (if (Int.tmod a0_0 a0_1) < 0 then (some (wrap64 ((wrap64 (Int.tdiv a0_0 a0_1)) - 1))) else (some (wrap64 (Int.tdiv a0_0 a0_1))))) = some r := h
 clear h
 by_cases c2 : a0_1 = 0
 ·rw [if_pos c2] at H
  exact absurd H (by simp)
 ·rw [if_neg c2] at H
  have c2b0 : (a0_1 == 0) = false := beq_eq_false_iff_ne.mpr c2
  have c2b1 : (a0_1 != 0) = true := bne_iff_ne.mpr c2
  by_cases c3 : (Int.tmod a0_0 a0_1) < 0
  ·rw [if_pos c3] at H
   have c3b0 : decide ((Int.tmod a0_0 a0_1) < 0) = true := decide_eq_true c3
   clear c3
   obtain rfl := Option.some.inj H
   go_enter Tryd.func15, Tryd.ntmps15
   go_wp2_with (first | ((with_reducible refine gate_dst (N := 1) rfl ?_); refine box_event ?hg (N := 1) ?hd (cs := #[.int .i64 a0_0, .int .i64 a0_1]) (t := 24) ?hr ?_; (case hd => rfl); (case hg => rfl); (case hr => exact gs_); intro gb431 hg w4 hbox hb; have BK431 := Aside0.mk (hbox); have GW431 := Aside0.mk ((by rw [hg]; exact (below_size (bl HB)) : w.heap.size ≤ gb431)); have GE431 := Aside0.mk ((by rw [hg]; exact (below_size (bl HB)) : w.heap.size ≤ gb431)); replace HB := Aside0.mk (below_step (bl HB) hb); clear hb hbox hg; have hcz5_0 := ck BK431 0; have hcz5_1 := ck BK431 1; have hfz5_0 := blk_frozen BK431.out 0; have hfz5_1 := blk_frozen BK431.out 1))
   go_ret
   exact ⟨by first | rfl | (simp [errW_none, errW_some] <;> rfl) | (simp [*, errW_none, errW_some] <;> rfl), bl HB⟩
  ·rw [if_neg c3] at H
   have c3b0 : decide ((Int.tmod a0_0 a0_1) < 0) = false := decide_eq_false c3
   clear c3
   obtain rfl := Option.some.inj H
   go_enter Tryd.func15, Tryd.ntmps15
   go_wp2_with (first | ((with_reducible refine gate_dst (N := 1) rfl ?_); refine box_event ?hg (N := 1) ?hd (cs := #[.int .i64 a0_0, .int .i64 a0_1]) (t := 24) ?hr ?_; (case hd => rfl); (case hg => rfl); (case hr => exact gs_); intro gb431 hg w6 hbox hb; have BK431 := Aside0.mk (hbox); have GW431 := Aside0.mk ((by rw [hg]; exact (below_size (bl HB)) : w.heap.size ≤ gb431)); have GE431 := Aside0.mk ((by rw [hg]; exact (below_size (bl HB)) : w.heap.size ≤ gb431)); replace HB := Aside0.mk (below_step (bl HB) hb); clear hb hbox hg; have hcz7_0 := ck BK431 0; have hcz7_1 := ck BK431 1; have hfz7_0 := blk_frozen BK431.out 0; have hfz7_1 := blk_frozen BK431.out 1))
   go_ret
   exact ⟨by first | rfl | (simp [errW_none, errW_some] <;> rfl) | (simp [*, errW_none, errW_some] <;> rfl), bl HB⟩

end Go.Proofs.YtglcjhjmncolpaaDoor.Q
