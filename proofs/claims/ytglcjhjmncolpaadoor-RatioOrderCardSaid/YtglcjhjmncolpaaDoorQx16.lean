-- Written for this claim by a program of the session (wip/print2). Not trusted: Lean checks it.
import Derived.Test.YtglcjhjmncolpaaDoorQx0
import Derived.Test.YtglcjhjmncolpaaDoorQx14
import Derived.Test.YtglcjhjmncolpaaDoorQx15
namespace Go.Proofs.YtglcjhjmncolpaaDoor.Q
open Go.RowKit Go.Proofs.YtglcjhjmncolpaaDoorW.PrintWords Go.Proofs.YtglcjhjmncolpaaDoorW.PrintLast Go.Proofs.YtglcjhjmncolpaaDoorW.PrintMore
attribute [local go_sem] max2_int min2_int max_two min_two max_three min_three max_four min_four   -- for this text's walks alone
set_option linter.unusedVariables false
set_option linter.unusedSimpArgs false

/-! ### pochoirref02_Add: function 40 -/
def pochoirref02_Add.f (k : Nat) (a0_0 : Bool) (l0_1 : List Int) (a1_0 : Bool) (l1_1 : List Int) : Option (Bool × List Int) := if (a0_0 == a1_0) = true then ((pochoirref02_plus.f k l0_1 l1_1).bind fun t326 => ((pochoirref02_norm.f k a0_0 t326).bind fun bt329 => (some (bt329.1, bt329.2)))) else ((pochoirref02_less.f k l0_1 l1_1).bind fun t333 => (if t333 ≥ 0 then ((pochoirref02_minus.f k l0_1 l1_1).bind fun t334 => ((pochoirref02_norm.f k a0_0 t334).bind fun bt337 => (some (bt337.1, bt337.2)))) else ((pochoirref02_minus.f k l1_1 l0_1).bind fun t341 => ((pochoirref02_norm.f k a1_0 t341).bind fun bt344 => (some (bt344.1, bt344.2))))))
theorem pochoirref02_Add.mono : ∀ a0 a1 a2 a3 k, LeO (pochoirref02_Add.f k a0 a1 a2 a3) (pochoirref02_Add.f (k + 1) a0 a1 a2 a3) := by
 intro a0 a1 a2 a3 k
 unfold pochoirref02_Add.f
 repeat' first
   | (with_reducible exact pochoirref02_less.mono _ _ _)
   | (with_reducible exact pochoirref02_minus.mono _ _ _)
   | (with_reducible exact pochoirref02_norm.mono _ _ _)
   | (with_reducible exact pochoirref02_plus.mono _ _ _)
   | (with_reducible exact LeO.refl _)
   | (with_reducible exact LeO.none _)
   | (with_reducible refine LeO.ite ?_ ?_)
   | (with_reducible refine LeO.bind ?_ (fun _ => ?_))
   | exact pochoirref02_less.mono _ _ _
   | exact pochoirref02_minus.mono _ _ _
   | exact pochoirref02_norm.mono _ _ _
   | exact pochoirref02_plus.mono _ _ _
   | exact LeO.none _
   | refine LeO.ite ?_ ?_
   | refine LeO.bind ?_ (fun _ => ?_)
def pochoirref02_Add.T2 : Bool × List (List Nat × List Nat) := (true, [([], []), ([0], [0]), ([], []), ([2], [2]), ([], []), ([4], [4]), ([3, 5], [3, 5]), ([1, 6, 6], [1, 6]), ([7, 7, 0, 1, 2, 3, 4, 5, 6, 7], [7])])
def pochoirref02_Add.B2 : List Nat := [0, 1, 0, 4, 0, 16, 60, 127, 255]
theorem pochoirref02_Add.tab2 : rtab .any (opsOf Tryd.f40 2) = pochoirref02_Add.T2 := by kernel_rfl
theorem pochoirref02_Add.bits2 : waitsOk pochoirref02_Add.T2.2 pochoirref02_Add.B2 = true := by kernel_rfl
def pochoirref02_Add.T4 : Bool × List (List Nat × List Nat) := (true, [([], []), ([0], [0]), ([], []), ([2], [2]), ([], []), ([4], [4]), ([3, 5], [3, 5]), ([1, 6, 6], [1, 6]), ([7, 7, 0, 1, 2, 3, 4, 5, 6, 7], [7])])
def pochoirref02_Add.B4 : List Nat := [0, 1, 0, 4, 0, 16, 60, 127, 255]
theorem pochoirref02_Add.tab4 : rtab .any (opsOf Tryd.f40 4) = pochoirref02_Add.T4 := by kernel_rfl
theorem pochoirref02_Add.bits4 : waitsOk pochoirref02_Add.T4.2 pochoirref02_Add.B4 = true := by kernel_rfl
def pochoirref02_Add.T5 : Bool × List (List Nat × List Nat) := (true, [([], []), ([0], [0]), ([], []), ([2], [2]), ([], []), ([4], [4]), ([3, 5], [3, 5]), ([1, 6, 6], [1, 6]), ([7, 7, 0, 1, 2, 3, 4, 5, 6, 7], [7])])
def pochoirref02_Add.B5 : List Nat := [0, 1, 0, 4, 0, 16, 60, 127, 255]
theorem pochoirref02_Add.tab5 : rtab .any (opsOf Tryd.f40 5) = pochoirref02_Add.T5 := by kernel_rfl
theorem pochoirref02_Add.bits5 : waitsOk pochoirref02_Add.T5.2 pochoirref02_Add.B5 = true := by kernel_rfl
set_option maxHeartbeats 8000000 in
set_option maxRecDepth 100000 in
theorem pochoirref02_Add.calls (k : Nat) (a0_0 : Bool) (A0_1 : Option Addr) (c0_1 : Nat) (l0_1 : List Int) (a1_0 : Bool) (A1_1 : Option Addr) (c1_1 : Nat) (l1_1 : List Int) (r1 : Bool) (r2 : List Int) (w : World) (hr0_1 : Kd.C (Kd.int .u64) w A0_1 l0_1.length l0_1) (hc0_1 : l0_1.length ≤ c0_1) (hr1_1 : Kd.C (Kd.int .u64) w A1_1 l1_1.length l1_1) (hc1_1 : l1_1.length ≤ c1_1) (h : pochoirref02_Add.f k a0_0 l0_1 a1_0 l1_1 = some (r1, r2)) :
  Calls Tryd.prog 40 #[.agg #[.bool a0_0, .slice A0_1 l0_1.length c0_1], .agg #[.bool a1_0, .slice A1_1 l1_1.length c1_1]] w fun e w' => ∃ v1_ : Value, e = .returned (.agg #[.bool r1, v1_]) ∧ Kd.R (Kd.int .u64) 45 w' w.heap.size (fun _ => True) v1_ r2 ∧ Below w.heap.size w w' := by
 have hu61 := Tryd.underlying61
 have HR0_1 := Aside0.mk hr0_1
 have HC0_1 := Aside0.mk hc0_1
 clear hr0_1 hc0_1
 have HR1_1 := Aside0.mk hr1_1
 have HC1_1 := Aside0.mk hc1_1
 clear hr1_1 hc1_1
 have HB := Aside0.mk (Below.refl w.heap.size w)
 have H : (if (a0_0 == a1_0) = true then ((pochoirref02_plus.f k l0_1 l1_1).bind fun t326 => ((pochoirref02_norm.f k a0_0 t326).bind fun bt329 => (some (bt329.1, bt329.2)))) else ((pochoirref02_less.f k l0_1 l1_1).bind fun t333 => (if t333 ≥ 0 then ((pochoirref02_minus.f k l0_1 l1_1).bind fun t334 => ((pochoirref02_norm.f k a0_0 t334).bind fun bt337 => (some (bt337.1, bt337.2)))) else ((pochoirref02_minus.f k l1_1 l0_1).bind fun t341 => ((pochoirref02_norm.f k a1_0 t341).bind fun bt344 => (some (bt344.1, bt344.2))))))) = some (r1, r2) := h
 clear h
 by_cases c3 : (a0_0 == a1_0) = true
 ·rw [if_pos c3] at H
  have c3b0 : (a0_0 == a1_0) = true := c3
  (try (have c3b1 : decide (a0_0 = a1_0) = true := by simpa using c3))
  (try (have c3b2 : (a0_0 == a1_0) = true := by simpa using c3))
  clear c3
  replace H := Option.bind_eq_some_iff.mp H
  obtain ⟨t326, A40, H⟩ := H
  replace H : ((pochoirref02_norm.f k a0_0 t326).bind fun bt329 => (some (bt329.1, bt329.2))) = some (r1, r2) := H
  have A4 := Aside0.mk A40
  clear A40
  replace H := Option.bind_eq_some_iff.mp H
  obtain ⟨⟨t329, t330⟩, A50, H⟩ := H
  replace H : (some (t329, t330)) = some (r1, r2) := H
  have A5 := Aside0.mk A50
  clear A50
  simp only [Option.some.injEq, Prod.mk.injEq] at H
  obtain ⟨rfl, rfl⟩ := H
  go_enter Tryd.func40, Tryd.ntmps40
  try go_wp2_with (first | ((with_reducible refine gate_dst (N := 2) rfl ?_); refine box_event ?hg (N := 2) ?hd (cs := #[.bool a0_0, .slice A0_1 l0_1.length c0_1]) (t := 61) ?hr ?_; (case hd => rfl); (case hg => rfl); (case hr => exact gs_); intro gb323 hg w6 hbox hb; have BK323 := Aside0.mk (hbox); have GW323 := Aside0.mk ((by rw [hg]; exact (below_size (bl HB)) : w.heap.size ≤ gb323)); have GE323 := Aside0.mk ((by rw [hg]; exact (below_size (bl HB)) : w.heap.size ≤ gb323)); replace HB := Aside0.mk (below_step (bl HB) hb); clear hb hbox hg) | ((with_reducible refine gate_dst (N := 3) rfl ?_); refine box_event ?hg (N := 3) ?hd (cs := #[.bool a1_0, .slice A1_1 l1_1.length c1_1]) (t := 61) ?hr ?_; (case hd => rfl); (case hg => rfl); (case hr => exact gs_); intro gb324 hg w7 hbox hb; have BK324 := Aside0.mk (hbox); have GW324 := Aside0.mk ((by rw [hg]; exact (below_size (bl HB)) : w.heap.size ≤ gb324)); have GE324 := Aside0.mk ((by rw [hg]; exact (below_size (bl HB)) : w.heap.size ≤ gb324)); replace HB := Aside0.mk (below_step (bl HB) hb); have NB323_324 := Aside0.mk ((by rw [hg]; exact Nat.ne_of_lt (blk_lt (kb BK323)) : gb323 ≠ gb324)); have NB324_323 := Aside0.mk ((by rw [hg]; exact Nat.ne_of_gt (blk_lt (kb BK323)) : gb324 ≠ gb323)); replace BK323 := Aside0.mk (blk_below (kb BK323) hb); clear hb hbox hg) | ((with_reducible refine gate_dst (N := 4) rfl ?_); refine box_event ?hg (N := 4) ?hd (cs := #[.bool false, .slice none 0 0]) (t := 61) ?hr ?_; (case hd => rfl); (case hg => rfl); (case hr => exact gs_); intro gb325 hg w8 hbox hb; have BK325 := Aside0.mk (hbox); have GW325 := Aside0.mk ((by rw [hg]; exact (below_size (bl HB)) : w.heap.size ≤ gb325)); have GE325 := Aside0.mk ((by rw [hg]; exact (below_size (bl HB)) : w.heap.size ≤ gb325)); replace HB := Aside0.mk (below_step (bl HB) hb); have NB323_325 := Aside0.mk ((by rw [hg]; exact Nat.ne_of_lt (blk_lt (kb BK323)) : gb323 ≠ gb325)); have NB325_323 := Aside0.mk ((by rw [hg]; exact Nat.ne_of_gt (blk_lt (kb BK323)) : gb325 ≠ gb323)); replace BK323 := Aside0.mk (blk_below (kb BK323) hb); have NB324_325 := Aside0.mk ((by rw [hg]; exact Nat.ne_of_lt (blk_lt (kb BK324)) : gb324 ≠ gb325)); have NB325_324 := Aside0.mk ((by rw [hg]; exact Nat.ne_of_gt (blk_lt (kb BK324)) : gb325 ≠ gb324)); replace BK324 := Aside0.mk (blk_below (kb BK324) hb); clear hb hbox hg; have hnb9 := NB323_324.out; have hnc9 := NB324_323.out; have hnb10 := NB323_325.out; have hnc10 := NB325_323.out; have hcz11_0 := ck BK323 0; have hcz11_1 := ck BK323 1; have hfz11_0 := blk_frozen BK323.out 0; have hfz11_1 := blk_frozen BK323.out 1; have hnb12 := NB324_325.out; have hnc12 := NB325_324.out; have hcz13_0 := ck BK324 0; have hcz13_1 := ck BK324 1; have hfz13_0 := blk_frozen BK324.out 0; have hfz13_1 := blk_frozen BK324.out 1))
  replace BK323 := Aside0.mk (blk_drew BK323.out)
  replace BK324 := Aside0.mk (blk_drew BK324.out)
  replace BK325 := Aside0.mk (blk_drew BK325.out)
  replace HB := Aside0.mk (below_drew1 HB.out)
  refine start_ (n := 9) (S := fun w' => w'.cell? ⟨gb323, 0, none⟩ = some (.bool a0_0) ∧ w'.cell? ⟨gb323, 1, none⟩ = some (.slice A0_1 l0_1.length c0_1) ∧ w'.cell? ⟨gb324, 0, none⟩ = some (.bool a1_0) ∧ w'.cell? ⟨gb324, 1, none⟩ = some (.slice A1_1 l1_1.length c1_1)) (ds := []) #[false, false, false, false, false, false, false, false, false] (by kernel_rfl) rfl rfl ⟨ck BK323 0, ck BK323 1, ck BK324 0, ck BK324 1⟩ (fun hHeld => ?_); refine with_tabW pochoirref02_Add.tab2 pochoirref02_Add.bits2 (fun HT_ HW_ => ?_)
  generalize w8.drew = w14 at BK323 BK324 BK325 HB hHeld ⊢
  refine pure_ (i := 0) (N := some 10) (v := ?_) (a' := ?_) #[true, false, false, false, false, false, false, false, false] rfl rfl (any_of HT_.out (by kernel_rfl)) (fun _ _ _ h => h) (Or.inl ⟨by rfl, ?_⟩) ?_ ?_
  rotate_left
  ·intro w'
   go_simp
   with_reducible rfl
  rotate_left
  ·simp only [Act.put, List.setIfInBounds_toArray, List.set_cons_zero, List.set_cons_succ, i64_w, i32_w]
   rfl
  refine pure_ (i := 2) (N := some 12) (v := ?_) (a' := ?_) #[true, false, true, false, false, false, false, false, false] rfl rfl (any_of HT_.out (by kernel_rfl)) (fun _ _ _ h => h) (Or.inl ⟨by rfl, ?_⟩) ?_ ?_
  rotate_left
  ·intro w'
   go_simp
   with_reducible rfl
  rotate_left
  ·simp only [Act.put, List.setIfInBounds_toArray, List.set_cons_zero, List.set_cons_succ, i64_w, i32_w]
   rfl
  refine pure_ (i := 4) (N := some 14) (v := ?_) (a' := ?_) #[true, false, true, false, true, false, false, false, false] rfl rfl (any_of HT_.out (by kernel_rfl)) (fun _ _ _ h => h) (Or.inl ⟨by rfl, ?_⟩) ?_ ?_
  rotate_left
  ·intro w'
   go_simp
   with_reducible rfl
  rotate_left
  ·simp only [Act.put, List.setIfInBounds_toArray, List.set_cons_zero, List.set_cons_succ, i64_w, i32_w]
   rfl
  refine take_ (i := 1) (N := some 11) (v := ?_) (a' := ?_) #[true, true, true, false, true, false, false, false, false] rfl rfl (take_ofW HT_.out HW_.out (by kernel_rfl)) (fun _ _ _ h => h) (Or.inl ⟨by rfl, ?_⟩) hHeld ?_ ?_
  rotate_left
  ·rintro w' ⟨s0, s1, s2, s3⟩
   go_simp
   with_reducible rfl
  rotate_left
  ·simp only [Act.put, List.setIfInBounds_toArray, List.set_cons_zero, List.set_cons_succ, i64_w, i32_w]
   rfl
  refine take_ (i := 3) (N := some 13) (v := ?_) (a' := ?_) #[true, true, true, true, true, false, false, false, false] rfl rfl (take_ofW HT_.out HW_.out (by kernel_rfl)) (fun _ _ _ h => h) (Or.inl ⟨by rfl, ?_⟩) hHeld ?_ ?_
  rotate_left
  ·rintro w' ⟨s0, s1, s2, s3⟩
   go_simp
   with_reducible rfl
  rotate_left
  ·simp only [Act.put, List.setIfInBounds_toArray, List.set_cons_zero, List.set_cons_succ, i64_w, i32_w]
   rfl
  refine take_ (i := 5) (N := some 15) (v := ?_) (a' := ?_) #[true, true, true, true, true, true, false, false, false] rfl rfl (take_ofW HT_.out HW_.out (by kernel_rfl)) (fun _ _ _ h => h) (Or.inl ⟨by rfl, ?_⟩) hHeld ?_ ?_
  rotate_left
  ·rintro w' ⟨s0, s1, s2, s3⟩
   go_simp
   with_reducible rfl
  rotate_left
  ·simp only [Act.put, List.setIfInBounds_toArray, List.set_cons_zero, List.set_cons_succ, i64_w, i32_w]
   rfl
  refine one_ (i := 6) (N := some 16) #[true, true, true, true, true, true, true, false, false] rfl rfl (one_of HT_.out (by kernel_rfl)) (by decide) (fun K hK => ?_)
  refine goes_ Tryd.func56 (by kernel_rfl) rfl #[.slice A0_1 l0_1.length c0_1, .slice A1_1 l1_1.length c1_1] (by rfl) rfl rfl gm_ ?_
  with_reducible refine (pochoirref02_plus.calls k _ _ l0_1 _ _ l1_1 t326 _ ?side1 ?side2 ?side3 ?side4 A4.out).mono ?_
  (case side1 => repeat (first | exact (Kd.C_below HR0_1.out HB.out) | (with_reducible refine Kd.C_alloc ?_ _) | (with_reducible refine Kd.C_drewN ?_ _) | (with_reducible refine Kd.C_drew ?_)))
  (case side2 => exact HC0_1.out)
  (case side3 => repeat (first | exact (Kd.C_below HR1_1.out HB.out) | (with_reducible refine Kd.C_alloc ?_ _) | (with_reducible refine Kd.C_drewN ?_ _) | (with_reducible refine Kd.C_drew ?_)))
  (case side4 => exact HC1_1.out)
  rintro e w15 ⟨v327, rfl, ho0, hb⟩
  refine ⟨_, rfl, ?_⟩
  have HO328 := Aside0.mk (Kd.R_lower ho0 (below_size (bl HB)))
  replace BK323 := Aside0.mk (blk_below (kb BK323) hb)
  replace BK324 := Aside0.mk (blk_below (kb BK324) hb)
  replace BK325 := Aside0.mk (blk_below (kb BK325) hb)
  replace HB := Aside0.mk (below_step (bl HB) hb)
  (try clear hb)
  (try clear hb2)
  (try clear hk)
  (try clear hi)
  (try clear ho0)
  obtain ⟨Ao16, co16, eo16⟩ := Kd.R_slice HO328.out
  (first | subst eo16 | (injection eo16 with f1_ f2_ f3_; have f4_ := f1_.symm; have f5_ := f3_.symm; clear f1_ f2_ f3_; subst f4_; subst f5_))
  refine hK.out _ _ ⟨ck BK323 0, ck BK323 1, ck BK324 0, ck BK324 1⟩ (fun hHeld => ?_)
  clear hK K
  refine norm_ (a' := ?_) ?_ ?_
  rotate_left
  ·show Act.put _ (some 16) _ = _
   simp only [Act.put, List.setIfInBounds_toArray, List.set_cons_zero, List.set_cons_succ, i64_w, i32_w]
   rfl
  refine one_ (i := 7) (N := some 17) #[true, true, true, true, true, true, true, true, false] rfl rfl (one_of HT_.out (by kernel_rfl)) (by decide) (fun K hK => ?_)
  refine goes_ Tryd.func55 (by kernel_rfl) rfl #[.bool a0_0, .slice Ao16 t326.length co16] (by rfl) rfl rfl gm_ ?_
  with_reducible refine (pochoirref02_norm.calls k a0_0 (fun k_ => some k_ = (.slice Ao16 t326.length co16 : Value).ownBlock) (.slice Ao16 t326.length co16) t326 t329 t330 w _ ?side1 ?side2 A5.out).mono ?_
  (case side1 => exact bl HB)
  (case side2 => exact Kd.R_tight rfl HO328.out)
  rintro e w17 ⟨v331, rfl, ho0, hb, hkp⟩
  refine ⟨_, rfl, ?_⟩
  replace BK323 := Aside0.mk (blk_kept (kb BK323) hkp (fun hs_ => (fun e_ => (Kd.R_ne HO328.out BK323.out (by decide)) e_) hs_))
  replace BK324 := Aside0.mk (blk_kept (kb BK324) hkp (fun hs_ => (fun e_ => (Kd.R_ne HO328.out BK324.out (by decide)) e_) hs_))
  replace BK325 := Aside0.mk (blk_kept (kb BK325) hkp (fun hs_ => (fun e_ => (Kd.R_ne HO328.out BK325.out (by decide)) e_) hs_))
  have HO332 := Aside0.mk (Kd.R_mono (ok' := fun k_ => True) ho0 (fun k_ hk_ => trivial))
  replace HB := Aside0.mk (hb)
  clear HO328
  (try clear hb)
  (try clear hkp)
  (try clear ho0)
  obtain ⟨Ao19, co19, eo19⟩ := Kd.R_slice HO332.out
  (first | subst eo19 | (injection eo19 with f1_ f2_ f3_; have f4_ := f1_.symm; have f5_ := f3_.symm; clear f1_ f2_ f3_; subst f4_; subst f5_))
  refine hK.out _ _ ⟨ck BK323 0, ck BK323 1, ck BK324 0, ck BK324 1⟩ (fun hHeld => ?_)
  clear hK K
  refine norm_ (a' := ?_) ?_ ?_
  rotate_left
  ·show Act.put _ (some 17) _ = _
   simp only [Act.put, List.setIfInBounds_toArray, List.set_cons_zero, List.set_cons_succ, i64_w, i32_w]
   rfl
  refine one_ (i := 8) (N := none) #[true, true, true, true, true, true, true, true, true] rfl rfl (one_of HT_.out (by kernel_rfl)) (by decide) (fun K hK => ?_)
  have hs18 : w17.cell? ⟨gb325, 0, none⟩ = some (.bool false) := ck BK325 0
  have hfs18 := blk_frozen BK325.out 0
  have hns18_0 := NB323_325.out
  have hns18_1 := NB324_325.out
  have hms18_0 := NB325_323.out
  have hms18_1 := NB325_324.out
  have hs20 : w17.cell? ⟨gb325, 1, none⟩ = some (.slice none 0 0) := ck BK325 1
  have hfs20 := blk_frozen BK325.out 1
  have hns20_0 := NB323_325.out
  have hns20_1 := NB324_325.out
  have hms20_0 := NB325_323.out
  have hms20_1 := NB325_324.out
  refine skip_ (w1 := ?_) (by rfl) rfl ?_ ?_
  rotate_left
  ·go_simp
   rfl
  refine hK.out _ _ ⟨((cell_far (p := ⟨gb325, _, none⟩) NB323_325.out _).trans (((cell_far (p := ⟨gb325, _, none⟩) NB323_325.out _).trans (hHeld.1)))), ((cell_far (p := ⟨gb325, _, none⟩) NB323_325.out _).trans (((cell_far (p := ⟨gb325, _, none⟩) NB323_325.out _).trans (hHeld.2.1)))), ((cell_far (p := ⟨gb325, _, none⟩) NB324_325.out _).trans (((cell_far (p := ⟨gb325, _, none⟩) NB324_325.out _).trans (hHeld.2.2.1)))), ((cell_far (p := ⟨gb325, _, none⟩) NB324_325.out _).trans (((cell_far (p := ⟨gb325, _, none⟩) NB324_325.out _).trans (hHeld.2.2.2))))⟩ (fun hHeld => ?_)
  clear hK K
  refine done_ (done_of HT_.out (by kernel_rfl)) ?_
  try go_wp2
  refine bodyPost_ret (results_cell_row rfl _ _ gb325 61 #[.bool t329, .slice Ao19 t330.length co19] (0, 0) _ rfl (by (with_reducible repeat (first | refine blk_drewN ?_ _ | refine blk_drew ?_ | refine blk_alloc ?_ _)); refine blk_put (cs := #[.bool t329, .slice none 0 0]) ?_ 1 _ rfl; (with_reducible repeat (first | refine blk_drewN ?_ _ | refine blk_drew ?_ | refine blk_alloc ?_ _)); refine blk_put (cs := #[.bool false, .slice none 0 0]) ?_ 0 _ rfl; (with_reducible repeat (first | refine blk_drewN ?_ _ | refine blk_drew ?_ | refine blk_alloc ?_ _)); exact BK325.out) Tryd.underlying61 rfl (by kernel_rfl)) rfl ?_
  exact ⟨_, by first | rfl | (simp [errW_none, errW_some] <;> rfl) | (simp [*, errW_none, errW_some] <;> rfl), by (with_reducible repeat (first | apply Kd.R_alloc | apply Kd.R_drewN | apply Kd.R_drew)); exact Kd.R_mono (Kd.R_far (p := ⟨gb325, 1, none⟩) (Kd.R_far (p := ⟨gb325, 0, none⟩) (Kd.R_types HO332.out BK325.out (by decide)) (fun _ hk => hk.2) (.bool t329)) (fun _ hk => hk.2) (.slice Ao19 t330.length co19)) (fun _ hk => trivial), bl HB⟩
 ·rw [if_neg c3] at H
  have c3b0 : (a0_0 == a1_0) = false := by simpa using c3
  (try (have c3b1 : decide (a0_0 = a1_0) = false := by simpa using c3))
  (try (have c3b2 : (a0_0 == a1_0) = false := by simpa using c3))
  (try (have c3b3 : ¬ (a0_0 = a1_0) := by simpa using c3))
  clear c3
  replace H := Option.bind_eq_some_iff.mp H
  obtain ⟨t333, A210, H⟩ := H
  replace H : (if t333 ≥ 0 then ((pochoirref02_minus.f k l0_1 l1_1).bind fun t334 => ((pochoirref02_norm.f k a0_0 t334).bind fun bt337 => (some (bt337.1, bt337.2)))) else ((pochoirref02_minus.f k l1_1 l0_1).bind fun t341 => ((pochoirref02_norm.f k a1_0 t341).bind fun bt344 => (some (bt344.1, bt344.2))))) = some (r1, r2) := H
  have A21 := Aside0.mk A210
  clear A210
  by_cases c22 : t333 ≥ 0
  ·rw [if_pos c22] at H
   have c22b0 : decide (0 ≤ t333) = true := decide_eq_true c22
   clear c22
   replace H := Option.bind_eq_some_iff.mp H
   obtain ⟨t334, A230, H⟩ := H
   replace H : ((pochoirref02_norm.f k a0_0 t334).bind fun bt337 => (some (bt337.1, bt337.2))) = some (r1, r2) := H
   have A23 := Aside0.mk A230
   clear A230
   replace H := Option.bind_eq_some_iff.mp H
   obtain ⟨⟨t337, t338⟩, A240, H⟩ := H
   replace H : (some (t337, t338)) = some (r1, r2) := H
   have A24 := Aside0.mk A240
   clear A240
   simp only [Option.some.injEq, Prod.mk.injEq] at H
   obtain ⟨rfl, rfl⟩ := H
   go_enter Tryd.func40, Tryd.ntmps40
   try go_wp2_with (first | ((with_reducible refine gate_dst (N := 2) rfl ?_); refine box_event ?hg (N := 2) ?hd (cs := #[.bool a0_0, .slice A0_1 l0_1.length c0_1]) (t := 61) ?hr ?_; (case hd => rfl); (case hg => rfl); (case hr => exact gs_); intro gb323 hg w25 hbox hb; have BK323 := Aside0.mk (hbox); have GW323 := Aside0.mk ((by rw [hg]; exact (below_size (bl HB)) : w.heap.size ≤ gb323)); have GE323 := Aside0.mk ((by rw [hg]; exact (below_size (bl HB)) : w.heap.size ≤ gb323)); replace HB := Aside0.mk (below_step (bl HB) hb); clear hb hbox hg) | ((with_reducible refine gate_dst (N := 3) rfl ?_); refine box_event ?hg (N := 3) ?hd (cs := #[.bool a1_0, .slice A1_1 l1_1.length c1_1]) (t := 61) ?hr ?_; (case hd => rfl); (case hg => rfl); (case hr => exact gs_); intro gb324 hg w26 hbox hb; have BK324 := Aside0.mk (hbox); have GW324 := Aside0.mk ((by rw [hg]; exact (below_size (bl HB)) : w.heap.size ≤ gb324)); have GE324 := Aside0.mk ((by rw [hg]; exact (below_size (bl HB)) : w.heap.size ≤ gb324)); replace HB := Aside0.mk (below_step (bl HB) hb); have NB323_324 := Aside0.mk ((by rw [hg]; exact Nat.ne_of_lt (blk_lt (kb BK323)) : gb323 ≠ gb324)); have NB324_323 := Aside0.mk ((by rw [hg]; exact Nat.ne_of_gt (blk_lt (kb BK323)) : gb324 ≠ gb323)); replace BK323 := Aside0.mk (blk_below (kb BK323) hb); clear hb hbox hg) | ((with_reducible refine gate_dst (N := 4) rfl ?_); refine box_event ?hg (N := 4) ?hd (cs := #[.bool false, .slice none 0 0]) (t := 61) ?hr ?_; (case hd => rfl); (case hg => rfl); (case hr => exact gs_); intro gb325 hg w27 hbox hb; have BK325 := Aside0.mk (hbox); have GW325 := Aside0.mk ((by rw [hg]; exact (below_size (bl HB)) : w.heap.size ≤ gb325)); have GE325 := Aside0.mk ((by rw [hg]; exact (below_size (bl HB)) : w.heap.size ≤ gb325)); replace HB := Aside0.mk (below_step (bl HB) hb); have NB323_325 := Aside0.mk ((by rw [hg]; exact Nat.ne_of_lt (blk_lt (kb BK323)) : gb323 ≠ gb325)); have NB325_323 := Aside0.mk ((by rw [hg]; exact Nat.ne_of_gt (blk_lt (kb BK323)) : gb325 ≠ gb323)); replace BK323 := Aside0.mk (blk_below (kb BK323) hb); have NB324_325 := Aside0.mk ((by rw [hg]; exact Nat.ne_of_lt (blk_lt (kb BK324)) : gb324 ≠ gb325)); have NB325_324 := Aside0.mk ((by rw [hg]; exact Nat.ne_of_gt (blk_lt (kb BK324)) : gb325 ≠ gb324)); replace BK324 := Aside0.mk (blk_below (kb BK324) hb); clear hb hbox hg; have hnb28 := NB323_324.out; have hnc28 := NB324_323.out; have hnb29 := NB323_325.out; have hnc29 := NB325_323.out; have hcz30_0 := ck BK323 0; have hcz30_1 := ck BK323 1; have hfz30_0 := blk_frozen BK323.out 0; have hfz30_1 := blk_frozen BK323.out 1; have hnb31 := NB324_325.out; have hnc31 := NB325_324.out; have hcz32_0 := ck BK324 0; have hcz32_1 := ck BK324 1; have hfz32_0 := blk_frozen BK324.out 0; have hfz32_1 := blk_frozen BK324.out 1) | ((with_reducible refine gate_callee (f := 57) rfl ?_); refine goesL_ (some 22) rfl rfl Tryd.func57 (by kernel_rfl) rfl #[.slice A0_1 l0_1.length c0_1, .slice A1_1 l1_1.length c1_1] rfl gm_ ?_; (with_reducible refine (pochoirref02_less.calls k _ _ l0_1 _ _ l1_1 t333 _ ?side1 ?side2 ?side3 ?side4 A21.out).mono ?_); (case side1 => repeat (first | exact (Kd.C_below HR0_1.out HB.out) | (with_reducible refine Kd.C_alloc ?_ _) | (with_reducible refine Kd.C_drewN ?_ _) | (with_reducible refine Kd.C_drew ?_))); (case side2 => exact HC0_1.out); (case side3 => repeat (first | exact (Kd.C_below HR1_1.out HB.out) | (with_reducible refine Kd.C_alloc ?_ _) | (with_reducible refine Kd.C_drewN ?_ _) | (with_reducible refine Kd.C_drew ?_))); (case side4 => exact HC1_1.out); rintro e w' ⟨rfl, ⟨nd, rfl⟩⟩; refine ⟨_, rfl, ?_⟩; (try (rw [drewN_self w27]; generalize hq_ : World.drewN w27 _ = w27; have n0_ : Aside0 (w27.heap[gb323]? = some (.cells #[.bool a0_0, .slice A0_1 l0_1.length c0_1] 61 (0, 0))) := ⟨by rw [← hq_]; exact (kb BK323)⟩; have n1_ : Aside0 (w27.heap[gb324]? = some (.cells #[.bool a1_0, .slice A1_1 l1_1.length c1_1] 61 (0, 0))) := ⟨by rw [← hq_]; exact (kb BK324)⟩; have n2_ : Aside0 (w27.heap[gb325]? = some (.cells #[.bool false, .slice none 0 0] 61 (0, 0))) := ⟨by rw [← hq_]; exact (kb BK325)⟩; have n3_ : Aside0 (Below w.heap.size w w27) := ⟨by rw [← hq_]; exact (bl HB)⟩; clear BK323 BK324 BK325 HB hq_; have BK323 := n0_; have BK324 := n1_; have BK325 := n2_; have HB := n3_; clear n0_ n1_ n2_ n3_))))
   replace BK323 := Aside0.mk (blk_drew BK323.out)
   replace BK324 := Aside0.mk (blk_drew BK324.out)
   replace BK325 := Aside0.mk (blk_drew BK325.out)
   replace HB := Aside0.mk (below_drew1 HB.out)
   refine start_ (n := 9) (S := fun w' => w'.cell? ⟨gb323, 0, none⟩ = some (.bool a0_0) ∧ w'.cell? ⟨gb323, 1, none⟩ = some (.slice A0_1 l0_1.length c0_1) ∧ w'.cell? ⟨gb324, 0, none⟩ = some (.bool a1_0) ∧ w'.cell? ⟨gb324, 1, none⟩ = some (.slice A1_1 l1_1.length c1_1)) (ds := []) #[false, false, false, false, false, false, false, false, false] (by kernel_rfl) rfl rfl ⟨ck BK323 0, ck BK323 1, ck BK324 0, ck BK324 1⟩ (fun hHeld => ?_); refine with_tabW pochoirref02_Add.tab4 pochoirref02_Add.bits4 (fun HT_ HW_ => ?_)
   generalize w27.drew = w33 at BK323 BK324 BK325 HB hHeld ⊢
   refine pure_ (i := 0) (N := some 24) (v := ?_) (a' := ?_) #[true, false, false, false, false, false, false, false, false] rfl rfl (any_of HT_.out (by kernel_rfl)) (fun _ _ _ h => h) (Or.inl ⟨by rfl, ?_⟩) ?_ ?_
   rotate_left
   ·intro w'
    go_simp
    with_reducible rfl
   rotate_left
   ·simp only [Act.put, List.setIfInBounds_toArray, List.set_cons_zero, List.set_cons_succ, i64_w, i32_w]
    rfl
   refine pure_ (i := 2) (N := some 26) (v := ?_) (a' := ?_) #[true, false, true, false, false, false, false, false, false] rfl rfl (any_of HT_.out (by kernel_rfl)) (fun _ _ _ h => h) (Or.inl ⟨by rfl, ?_⟩) ?_ ?_
   rotate_left
   ·intro w'
    go_simp
    with_reducible rfl
   rotate_left
   ·simp only [Act.put, List.setIfInBounds_toArray, List.set_cons_zero, List.set_cons_succ, i64_w, i32_w]
    rfl
   refine pure_ (i := 4) (N := some 28) (v := ?_) (a' := ?_) #[true, false, true, false, true, false, false, false, false] rfl rfl (any_of HT_.out (by kernel_rfl)) (fun _ _ _ h => h) (Or.inl ⟨by rfl, ?_⟩) ?_ ?_
   rotate_left
   ·intro w'
    go_simp
    with_reducible rfl
   rotate_left
   ·simp only [Act.put, List.setIfInBounds_toArray, List.set_cons_zero, List.set_cons_succ, i64_w, i32_w]
    rfl
   refine take_ (i := 1) (N := some 25) (v := ?_) (a' := ?_) #[true, true, true, false, true, false, false, false, false] rfl rfl (take_ofW HT_.out HW_.out (by kernel_rfl)) (fun _ _ _ h => h) (Or.inl ⟨by rfl, ?_⟩) hHeld ?_ ?_
   rotate_left
   ·rintro w' ⟨s0, s1, s2, s3⟩
    go_simp
    with_reducible rfl
   rotate_left
   ·simp only [Act.put, List.setIfInBounds_toArray, List.set_cons_zero, List.set_cons_succ, i64_w, i32_w]
    rfl
   refine take_ (i := 3) (N := some 27) (v := ?_) (a' := ?_) #[true, true, true, true, true, false, false, false, false] rfl rfl (take_ofW HT_.out HW_.out (by kernel_rfl)) (fun _ _ _ h => h) (Or.inl ⟨by rfl, ?_⟩) hHeld ?_ ?_
   rotate_left
   ·rintro w' ⟨s0, s1, s2, s3⟩
    go_simp
    with_reducible rfl
   rotate_left
   ·simp only [Act.put, List.setIfInBounds_toArray, List.set_cons_zero, List.set_cons_succ, i64_w, i32_w]
    rfl
   refine take_ (i := 5) (N := some 29) (v := ?_) (a' := ?_) #[true, true, true, true, true, true, false, false, false] rfl rfl (take_ofW HT_.out HW_.out (by kernel_rfl)) (fun _ _ _ h => h) (Or.inl ⟨by rfl, ?_⟩) hHeld ?_ ?_
   rotate_left
   ·rintro w' ⟨s0, s1, s2, s3⟩
    go_simp
    with_reducible rfl
   rotate_left
   ·simp only [Act.put, List.setIfInBounds_toArray, List.set_cons_zero, List.set_cons_succ, i64_w, i32_w]
    rfl
   refine one_ (i := 6) (N := some 30) #[true, true, true, true, true, true, true, false, false] rfl rfl (one_of HT_.out (by kernel_rfl)) (by decide) (fun K hK => ?_)
   refine goes_ Tryd.func58 (by kernel_rfl) rfl #[.slice A0_1 l0_1.length c0_1, .slice A1_1 l1_1.length c1_1] (by rfl) rfl rfl gm_ ?_
   with_reducible refine (pochoirref02_minus.calls k _ _ l0_1 _ _ l1_1 t334 _ ?side1 ?side2 ?side3 ?side4 A23.out).mono ?_
   (case side1 => repeat (first | exact (Kd.C_below HR0_1.out HB.out) | (with_reducible refine Kd.C_alloc ?_ _) | (with_reducible refine Kd.C_drewN ?_ _) | (with_reducible refine Kd.C_drew ?_)))
   (case side2 => exact HC0_1.out)
   (case side3 => repeat (first | exact (Kd.C_below HR1_1.out HB.out) | (with_reducible refine Kd.C_alloc ?_ _) | (with_reducible refine Kd.C_drewN ?_ _) | (with_reducible refine Kd.C_drew ?_)))
   (case side4 => exact HC1_1.out)
   rintro e w34 ⟨v335, rfl, ho0, hb⟩
   refine ⟨_, rfl, ?_⟩
   have HO336 := Aside0.mk (Kd.R_lower ho0 (below_size (bl HB)))
   replace BK323 := Aside0.mk (blk_below (kb BK323) hb)
   replace BK324 := Aside0.mk (blk_below (kb BK324) hb)
   replace BK325 := Aside0.mk (blk_below (kb BK325) hb)
   replace HB := Aside0.mk (below_step (bl HB) hb)
   (try clear hb)
   (try clear hb2)
   (try clear hk)
   (try clear hi)
   (try clear ho0)
   obtain ⟨Ao35, co35, eo35⟩ := Kd.R_slice HO336.out
   (first | subst eo35 | (injection eo35 with f1_ f2_ f3_; have f4_ := f1_.symm; have f5_ := f3_.symm; clear f1_ f2_ f3_; subst f4_; subst f5_))
   refine hK.out _ _ ⟨ck BK323 0, ck BK323 1, ck BK324 0, ck BK324 1⟩ (fun hHeld => ?_)
   clear hK K
   refine norm_ (a' := ?_) ?_ ?_
   rotate_left
   ·show Act.put _ (some 30) _ = _
    simp only [Act.put, List.setIfInBounds_toArray, List.set_cons_zero, List.set_cons_succ, i64_w, i32_w]
    rfl
   refine one_ (i := 7) (N := some 31) #[true, true, true, true, true, true, true, true, false] rfl rfl (one_of HT_.out (by kernel_rfl)) (by decide) (fun K hK => ?_)
   refine goes_ Tryd.func55 (by kernel_rfl) rfl #[.bool a0_0, .slice Ao35 t334.length co35] (by rfl) rfl rfl gm_ ?_
   with_reducible refine (pochoirref02_norm.calls k a0_0 (fun k_ => some k_ = (.slice Ao35 t334.length co35 : Value).ownBlock) (.slice Ao35 t334.length co35) t334 t337 t338 w _ ?side1 ?side2 A24.out).mono ?_
   (case side1 => exact bl HB)
   (case side2 => exact Kd.R_tight rfl HO336.out)
   rintro e w36 ⟨v339, rfl, ho0, hb, hkp⟩
   refine ⟨_, rfl, ?_⟩
   replace BK323 := Aside0.mk (blk_kept (kb BK323) hkp (fun hs_ => (fun e_ => (Kd.R_ne HO336.out BK323.out (by decide)) e_) hs_))
   replace BK324 := Aside0.mk (blk_kept (kb BK324) hkp (fun hs_ => (fun e_ => (Kd.R_ne HO336.out BK324.out (by decide)) e_) hs_))
   replace BK325 := Aside0.mk (blk_kept (kb BK325) hkp (fun hs_ => (fun e_ => (Kd.R_ne HO336.out BK325.out (by decide)) e_) hs_))
   have HO340 := Aside0.mk (Kd.R_mono (ok' := fun k_ => True) ho0 (fun k_ hk_ => trivial))
   replace HB := Aside0.mk (hb)
   clear HO336
   (try clear hb)
   (try clear hkp)
   (try clear ho0)
   obtain ⟨Ao38, co38, eo38⟩ := Kd.R_slice HO340.out
   (first | subst eo38 | (injection eo38 with f1_ f2_ f3_; have f4_ := f1_.symm; have f5_ := f3_.symm; clear f1_ f2_ f3_; subst f4_; subst f5_))
   refine hK.out _ _ ⟨ck BK323 0, ck BK323 1, ck BK324 0, ck BK324 1⟩ (fun hHeld => ?_)
   clear hK K
   refine norm_ (a' := ?_) ?_ ?_
   rotate_left
   ·show Act.put _ (some 31) _ = _
    simp only [Act.put, List.setIfInBounds_toArray, List.set_cons_zero, List.set_cons_succ, i64_w, i32_w]
    rfl
   refine one_ (i := 8) (N := none) #[true, true, true, true, true, true, true, true, true] rfl rfl (one_of HT_.out (by kernel_rfl)) (by decide) (fun K hK => ?_)
   have hs37 : w36.cell? ⟨gb325, 0, none⟩ = some (.bool false) := ck BK325 0
   have hfs37 := blk_frozen BK325.out 0
   have hns37_0 := NB323_325.out
   have hns37_1 := NB324_325.out
   have hms37_0 := NB325_323.out
   have hms37_1 := NB325_324.out
   have hs39 : w36.cell? ⟨gb325, 1, none⟩ = some (.slice none 0 0) := ck BK325 1
   have hfs39 := blk_frozen BK325.out 1
   have hns39_0 := NB323_325.out
   have hns39_1 := NB324_325.out
   have hms39_0 := NB325_323.out
   have hms39_1 := NB325_324.out
   refine skip_ (w1 := ?_) (by rfl) rfl ?_ ?_
   rotate_left
   ·go_simp
    rfl
   refine hK.out _ _ ⟨((cell_far (p := ⟨gb325, _, none⟩) NB323_325.out _).trans (((cell_far (p := ⟨gb325, _, none⟩) NB323_325.out _).trans (hHeld.1)))), ((cell_far (p := ⟨gb325, _, none⟩) NB323_325.out _).trans (((cell_far (p := ⟨gb325, _, none⟩) NB323_325.out _).trans (hHeld.2.1)))), ((cell_far (p := ⟨gb325, _, none⟩) NB324_325.out _).trans (((cell_far (p := ⟨gb325, _, none⟩) NB324_325.out _).trans (hHeld.2.2.1)))), ((cell_far (p := ⟨gb325, _, none⟩) NB324_325.out _).trans (((cell_far (p := ⟨gb325, _, none⟩) NB324_325.out _).trans (hHeld.2.2.2))))⟩ (fun hHeld => ?_)
   clear hK K
   refine done_ (done_of HT_.out (by kernel_rfl)) ?_
   try go_wp2
   refine bodyPost_ret (results_cell_row rfl _ _ gb325 61 #[.bool t337, .slice Ao38 t338.length co38] (0, 0) _ rfl (by (with_reducible repeat (first | refine blk_drewN ?_ _ | refine blk_drew ?_ | refine blk_alloc ?_ _)); refine blk_put (cs := #[.bool t337, .slice none 0 0]) ?_ 1 _ rfl; (with_reducible repeat (first | refine blk_drewN ?_ _ | refine blk_drew ?_ | refine blk_alloc ?_ _)); refine blk_put (cs := #[.bool false, .slice none 0 0]) ?_ 0 _ rfl; (with_reducible repeat (first | refine blk_drewN ?_ _ | refine blk_drew ?_ | refine blk_alloc ?_ _)); exact BK325.out) Tryd.underlying61 rfl (by kernel_rfl)) rfl ?_
   exact ⟨_, by first | rfl | (simp [errW_none, errW_some] <;> rfl) | (simp [*, errW_none, errW_some] <;> rfl), by (with_reducible repeat (first | apply Kd.R_alloc | apply Kd.R_drewN | apply Kd.R_drew)); exact Kd.R_mono (Kd.R_far (p := ⟨gb325, 1, none⟩) (Kd.R_far (p := ⟨gb325, 0, none⟩) (Kd.R_types HO340.out BK325.out (by decide)) (fun _ hk => hk.2) (.bool t337)) (fun _ hk => hk.2) (.slice Ao38 t338.length co38)) (fun _ hk => trivial), bl HB⟩
  ·rw [if_neg c22] at H
   have c22b0 : decide (0 ≤ t333) = false := decide_eq_false c22
   clear c22
   replace H := Option.bind_eq_some_iff.mp H
   obtain ⟨t341, A400, H⟩ := H
   replace H : ((pochoirref02_norm.f k a1_0 t341).bind fun bt344 => (some (bt344.1, bt344.2))) = some (r1, r2) := H
   have A40 := Aside0.mk A400
   clear A400
   replace H := Option.bind_eq_some_iff.mp H
   obtain ⟨⟨t344, t345⟩, A410, H⟩ := H
   replace H : (some (t344, t345)) = some (r1, r2) := H
   have A41 := Aside0.mk A410
   clear A410
   simp only [Option.some.injEq, Prod.mk.injEq] at H
   obtain ⟨rfl, rfl⟩ := H
   go_enter Tryd.func40, Tryd.ntmps40
   try go_wp2_with (first | ((with_reducible refine gate_dst (N := 2) rfl ?_); refine box_event ?hg (N := 2) ?hd (cs := #[.bool a0_0, .slice A0_1 l0_1.length c0_1]) (t := 61) ?hr ?_; (case hd => rfl); (case hg => rfl); (case hr => exact gs_); intro gb323 hg w42 hbox hb; have BK323 := Aside0.mk (hbox); have GW323 := Aside0.mk ((by rw [hg]; exact (below_size (bl HB)) : w.heap.size ≤ gb323)); have GE323 := Aside0.mk ((by rw [hg]; exact (below_size (bl HB)) : w.heap.size ≤ gb323)); replace HB := Aside0.mk (below_step (bl HB) hb); clear hb hbox hg) | ((with_reducible refine gate_dst (N := 3) rfl ?_); refine box_event ?hg (N := 3) ?hd (cs := #[.bool a1_0, .slice A1_1 l1_1.length c1_1]) (t := 61) ?hr ?_; (case hd => rfl); (case hg => rfl); (case hr => exact gs_); intro gb324 hg w43 hbox hb; have BK324 := Aside0.mk (hbox); have GW324 := Aside0.mk ((by rw [hg]; exact (below_size (bl HB)) : w.heap.size ≤ gb324)); have GE324 := Aside0.mk ((by rw [hg]; exact (below_size (bl HB)) : w.heap.size ≤ gb324)); replace HB := Aside0.mk (below_step (bl HB) hb); have NB323_324 := Aside0.mk ((by rw [hg]; exact Nat.ne_of_lt (blk_lt (kb BK323)) : gb323 ≠ gb324)); have NB324_323 := Aside0.mk ((by rw [hg]; exact Nat.ne_of_gt (blk_lt (kb BK323)) : gb324 ≠ gb323)); replace BK323 := Aside0.mk (blk_below (kb BK323) hb); clear hb hbox hg) | ((with_reducible refine gate_dst (N := 4) rfl ?_); refine box_event ?hg (N := 4) ?hd (cs := #[.bool false, .slice none 0 0]) (t := 61) ?hr ?_; (case hd => rfl); (case hg => rfl); (case hr => exact gs_); intro gb325 hg w44 hbox hb; have BK325 := Aside0.mk (hbox); have GW325 := Aside0.mk ((by rw [hg]; exact (below_size (bl HB)) : w.heap.size ≤ gb325)); have GE325 := Aside0.mk ((by rw [hg]; exact (below_size (bl HB)) : w.heap.size ≤ gb325)); replace HB := Aside0.mk (below_step (bl HB) hb); have NB323_325 := Aside0.mk ((by rw [hg]; exact Nat.ne_of_lt (blk_lt (kb BK323)) : gb323 ≠ gb325)); have NB325_323 := Aside0.mk ((by rw [hg]; exact Nat.ne_of_gt (blk_lt (kb BK323)) : gb325 ≠ gb323)); replace BK323 := Aside0.mk (blk_below (kb BK323) hb); have NB324_325 := Aside0.mk ((by rw [hg]; exact Nat.ne_of_lt (blk_lt (kb BK324)) : gb324 ≠ gb325)); have NB325_324 := Aside0.mk ((by rw [hg]; exact Nat.ne_of_gt (blk_lt (kb BK324)) : gb325 ≠ gb324)); replace BK324 := Aside0.mk (blk_below (kb BK324) hb); clear hb hbox hg; have hnb45 := NB323_324.out; have hnc45 := NB324_323.out; have hnb46 := NB323_325.out; have hnc46 := NB325_323.out; have hcz47_0 := ck BK323 0; have hcz47_1 := ck BK323 1; have hfz47_0 := blk_frozen BK323.out 0; have hfz47_1 := blk_frozen BK323.out 1; have hnb48 := NB324_325.out; have hnc48 := NB325_324.out; have hcz49_0 := ck BK324 0; have hcz49_1 := ck BK324 1; have hfz49_0 := blk_frozen BK324.out 0; have hfz49_1 := blk_frozen BK324.out 1) | ((with_reducible refine gate_callee (f := 57) rfl ?_); refine goesL_ (some 22) rfl rfl Tryd.func57 (by kernel_rfl) rfl #[.slice A0_1 l0_1.length c0_1, .slice A1_1 l1_1.length c1_1] rfl gm_ ?_; (with_reducible refine (pochoirref02_less.calls k _ _ l0_1 _ _ l1_1 t333 _ ?side1 ?side2 ?side3 ?side4 A21.out).mono ?_); (case side1 => repeat (first | exact (Kd.C_below HR0_1.out HB.out) | (with_reducible refine Kd.C_alloc ?_ _) | (with_reducible refine Kd.C_drewN ?_ _) | (with_reducible refine Kd.C_drew ?_))); (case side2 => exact HC0_1.out); (case side3 => repeat (first | exact (Kd.C_below HR1_1.out HB.out) | (with_reducible refine Kd.C_alloc ?_ _) | (with_reducible refine Kd.C_drewN ?_ _) | (with_reducible refine Kd.C_drew ?_))); (case side4 => exact HC1_1.out); rintro e w' ⟨rfl, ⟨nd, rfl⟩⟩; refine ⟨_, rfl, ?_⟩; (try (rw [drewN_self w44]; generalize hq_ : World.drewN w44 _ = w44; have n0_ : Aside0 (w44.heap[gb323]? = some (.cells #[.bool a0_0, .slice A0_1 l0_1.length c0_1] 61 (0, 0))) := ⟨by rw [← hq_]; exact (kb BK323)⟩; have n1_ : Aside0 (w44.heap[gb324]? = some (.cells #[.bool a1_0, .slice A1_1 l1_1.length c1_1] 61 (0, 0))) := ⟨by rw [← hq_]; exact (kb BK324)⟩; have n2_ : Aside0 (w44.heap[gb325]? = some (.cells #[.bool false, .slice none 0 0] 61 (0, 0))) := ⟨by rw [← hq_]; exact (kb BK325)⟩; have n3_ : Aside0 (Below w.heap.size w w44) := ⟨by rw [← hq_]; exact (bl HB)⟩; clear BK323 BK324 BK325 HB hq_; have BK323 := n0_; have BK324 := n1_; have BK325 := n2_; have HB := n3_; clear n0_ n1_ n2_ n3_))))
   replace BK323 := Aside0.mk (blk_drew BK323.out)
   replace BK324 := Aside0.mk (blk_drew BK324.out)
   replace BK325 := Aside0.mk (blk_drew BK325.out)
   replace HB := Aside0.mk (below_drew1 HB.out)
   refine start_ (n := 9) (S := fun w' => w'.cell? ⟨gb324, 0, none⟩ = some (.bool a1_0) ∧ w'.cell? ⟨gb324, 1, none⟩ = some (.slice A1_1 l1_1.length c1_1) ∧ w'.cell? ⟨gb323, 0, none⟩ = some (.bool a0_0) ∧ w'.cell? ⟨gb323, 1, none⟩ = some (.slice A0_1 l0_1.length c0_1)) (ds := []) #[false, false, false, false, false, false, false, false, false] (by kernel_rfl) rfl rfl ⟨ck BK324 0, ck BK324 1, ck BK323 0, ck BK323 1⟩ (fun hHeld => ?_); refine with_tabW pochoirref02_Add.tab5 pochoirref02_Add.bits5 (fun HT_ HW_ => ?_)
   generalize w44.drew = w50 at BK323 BK324 BK325 HB hHeld ⊢
   refine pure_ (i := 0) (N := some 32) (v := ?_) (a' := ?_) #[true, false, false, false, false, false, false, false, false] rfl rfl (any_of HT_.out (by kernel_rfl)) (fun _ _ _ h => h) (Or.inl ⟨by rfl, ?_⟩) ?_ ?_
   rotate_left
   ·intro w'
    go_simp
    with_reducible rfl
   rotate_left
   ·simp only [Act.put, List.setIfInBounds_toArray, List.set_cons_zero, List.set_cons_succ, i64_w, i32_w]
    rfl
   refine pure_ (i := 2) (N := some 34) (v := ?_) (a' := ?_) #[true, false, true, false, false, false, false, false, false] rfl rfl (any_of HT_.out (by kernel_rfl)) (fun _ _ _ h => h) (Or.inl ⟨by rfl, ?_⟩) ?_ ?_
   rotate_left
   ·intro w'
    go_simp
    with_reducible rfl
   rotate_left
   ·simp only [Act.put, List.setIfInBounds_toArray, List.set_cons_zero, List.set_cons_succ, i64_w, i32_w]
    rfl
   refine pure_ (i := 4) (N := some 36) (v := ?_) (a' := ?_) #[true, false, true, false, true, false, false, false, false] rfl rfl (any_of HT_.out (by kernel_rfl)) (fun _ _ _ h => h) (Or.inl ⟨by rfl, ?_⟩) ?_ ?_
   rotate_left
   ·intro w'
    go_simp
    with_reducible rfl
   rotate_left
   ·simp only [Act.put, List.setIfInBounds_toArray, List.set_cons_zero, List.set_cons_succ, i64_w, i32_w]
    rfl
   refine take_ (i := 1) (N := some 33) (v := ?_) (a' := ?_) #[true, true, true, false, true, false, false, false, false] rfl rfl (take_ofW HT_.out HW_.out (by kernel_rfl)) (fun _ _ _ h => h) (Or.inl ⟨by rfl, ?_⟩) hHeld ?_ ?_
   rotate_left
   ·rintro w' ⟨s0, s1, s2, s3⟩
    go_simp
    with_reducible rfl
   rotate_left
   ·simp only [Act.put, List.setIfInBounds_toArray, List.set_cons_zero, List.set_cons_succ, i64_w, i32_w]
    rfl
   refine take_ (i := 3) (N := some 35) (v := ?_) (a' := ?_) #[true, true, true, true, true, false, false, false, false] rfl rfl (take_ofW HT_.out HW_.out (by kernel_rfl)) (fun _ _ _ h => h) (Or.inl ⟨by rfl, ?_⟩) hHeld ?_ ?_
   rotate_left
   ·rintro w' ⟨s0, s1, s2, s3⟩
    go_simp
    with_reducible rfl
   rotate_left
   ·simp only [Act.put, List.setIfInBounds_toArray, List.set_cons_zero, List.set_cons_succ, i64_w, i32_w]
    rfl
   refine take_ (i := 5) (N := some 37) (v := ?_) (a' := ?_) #[true, true, true, true, true, true, false, false, false] rfl rfl (take_ofW HT_.out HW_.out (by kernel_rfl)) (fun _ _ _ h => h) (Or.inl ⟨by rfl, ?_⟩) hHeld ?_ ?_
   rotate_left
   ·rintro w' ⟨s0, s1, s2, s3⟩
    go_simp
    with_reducible rfl
   rotate_left
   ·simp only [Act.put, List.setIfInBounds_toArray, List.set_cons_zero, List.set_cons_succ, i64_w, i32_w]
    rfl
   refine one_ (i := 6) (N := some 38) #[true, true, true, true, true, true, true, false, false] rfl rfl (one_of HT_.out (by kernel_rfl)) (by decide) (fun K hK => ?_)
   refine goes_ Tryd.func58 (by kernel_rfl) rfl #[.slice A1_1 l1_1.length c1_1, .slice A0_1 l0_1.length c0_1] (by rfl) rfl rfl gm_ ?_
   with_reducible refine (pochoirref02_minus.calls k _ _ l1_1 _ _ l0_1 t341 _ ?side1 ?side2 ?side3 ?side4 A40.out).mono ?_
   (case side1 => repeat (first | exact (Kd.C_below HR1_1.out HB.out) | (with_reducible refine Kd.C_alloc ?_ _) | (with_reducible refine Kd.C_drewN ?_ _) | (with_reducible refine Kd.C_drew ?_)))
   (case side2 => exact HC1_1.out)
   (case side3 => repeat (first | exact (Kd.C_below HR0_1.out HB.out) | (with_reducible refine Kd.C_alloc ?_ _) | (with_reducible refine Kd.C_drewN ?_ _) | (with_reducible refine Kd.C_drew ?_)))
   (case side4 => exact HC0_1.out)
   rintro e w51 ⟨v342, rfl, ho0, hb⟩
   refine ⟨_, rfl, ?_⟩
   have HO343 := Aside0.mk (Kd.R_lower ho0 (below_size (bl HB)))
   replace BK323 := Aside0.mk (blk_below (kb BK323) hb)
   replace BK324 := Aside0.mk (blk_below (kb BK324) hb)
   replace BK325 := Aside0.mk (blk_below (kb BK325) hb)
   replace HB := Aside0.mk (below_step (bl HB) hb)
   (try clear hb)
   (try clear hb2)
   (try clear hk)
   (try clear hi)
   (try clear ho0)
   obtain ⟨Ao52, co52, eo52⟩ := Kd.R_slice HO343.out
   (first | subst eo52 | (injection eo52 with f1_ f2_ f3_; have f4_ := f1_.symm; have f5_ := f3_.symm; clear f1_ f2_ f3_; subst f4_; subst f5_))
   refine hK.out _ _ ⟨ck BK324 0, ck BK324 1, ck BK323 0, ck BK323 1⟩ (fun hHeld => ?_)
   clear hK K
   refine norm_ (a' := ?_) ?_ ?_
   rotate_left
   ·show Act.put _ (some 38) _ = _
    simp only [Act.put, List.setIfInBounds_toArray, List.set_cons_zero, List.set_cons_succ, i64_w, i32_w]
    rfl
   refine one_ (i := 7) (N := some 39) #[true, true, true, true, true, true, true, true, false] rfl rfl (one_of HT_.out (by kernel_rfl)) (by decide) (fun K hK => ?_)
   refine goes_ Tryd.func55 (by kernel_rfl) rfl #[.bool a1_0, .slice Ao52 t341.length co52] (by rfl) rfl rfl gm_ ?_
   with_reducible refine (pochoirref02_norm.calls k a1_0 (fun k_ => some k_ = (.slice Ao52 t341.length co52 : Value).ownBlock) (.slice Ao52 t341.length co52) t341 t344 t345 w _ ?side1 ?side2 A41.out).mono ?_
   (case side1 => exact bl HB)
   (case side2 => exact Kd.R_tight rfl HO343.out)
   rintro e w53 ⟨v346, rfl, ho0, hb, hkp⟩
   refine ⟨_, rfl, ?_⟩
   replace BK323 := Aside0.mk (blk_kept (kb BK323) hkp (fun hs_ => (fun e_ => (Kd.R_ne HO343.out BK323.out (by decide)) e_) hs_))
   replace BK324 := Aside0.mk (blk_kept (kb BK324) hkp (fun hs_ => (fun e_ => (Kd.R_ne HO343.out BK324.out (by decide)) e_) hs_))
   replace BK325 := Aside0.mk (blk_kept (kb BK325) hkp (fun hs_ => (fun e_ => (Kd.R_ne HO343.out BK325.out (by decide)) e_) hs_))
   have HO347 := Aside0.mk (Kd.R_mono (ok' := fun k_ => True) ho0 (fun k_ hk_ => trivial))
   replace HB := Aside0.mk (hb)
   clear HO343
   (try clear hb)
   (try clear hkp)
   (try clear ho0)
   obtain ⟨Ao55, co55, eo55⟩ := Kd.R_slice HO347.out
   (first | subst eo55 | (injection eo55 with f1_ f2_ f3_; have f4_ := f1_.symm; have f5_ := f3_.symm; clear f1_ f2_ f3_; subst f4_; subst f5_))
   refine hK.out _ _ ⟨ck BK324 0, ck BK324 1, ck BK323 0, ck BK323 1⟩ (fun hHeld => ?_)
   clear hK K
   refine norm_ (a' := ?_) ?_ ?_
   rotate_left
   ·show Act.put _ (some 39) _ = _
    simp only [Act.put, List.setIfInBounds_toArray, List.set_cons_zero, List.set_cons_succ, i64_w, i32_w]
    rfl
   refine one_ (i := 8) (N := none) #[true, true, true, true, true, true, true, true, true] rfl rfl (one_of HT_.out (by kernel_rfl)) (by decide) (fun K hK => ?_)
   have hs54 : w53.cell? ⟨gb325, 0, none⟩ = some (.bool false) := ck BK325 0
   have hfs54 := blk_frozen BK325.out 0
   have hns54_0 := NB323_325.out
   have hns54_1 := NB324_325.out
   have hms54_0 := NB325_323.out
   have hms54_1 := NB325_324.out
   have hs56 : w53.cell? ⟨gb325, 1, none⟩ = some (.slice none 0 0) := ck BK325 1
   have hfs56 := blk_frozen BK325.out 1
   have hns56_0 := NB323_325.out
   have hns56_1 := NB324_325.out
   have hms56_0 := NB325_323.out
   have hms56_1 := NB325_324.out
   refine skip_ (w1 := ?_) (by rfl) rfl ?_ ?_
   rotate_left
   ·go_simp
    rfl
   refine hK.out _ _ ⟨((cell_far (p := ⟨gb325, _, none⟩) NB324_325.out _).trans (((cell_far (p := ⟨gb325, _, none⟩) NB324_325.out _).trans (hHeld.1)))), ((cell_far (p := ⟨gb325, _, none⟩) NB324_325.out _).trans (((cell_far (p := ⟨gb325, _, none⟩) NB324_325.out _).trans (hHeld.2.1)))), ((cell_far (p := ⟨gb325, _, none⟩) NB323_325.out _).trans (((cell_far (p := ⟨gb325, _, none⟩) NB323_325.out _).trans (hHeld.2.2.1)))), ((cell_far (p := ⟨gb325, _, none⟩) NB323_325.out _).trans (((cell_far (p := ⟨gb325, _, none⟩) NB323_325.out _).trans (hHeld.2.2.2))))⟩ (fun hHeld => ?_)
   clear hK K
   refine done_ (done_of HT_.out (by kernel_rfl)) ?_
   try go_wp2
   refine bodyPost_ret (results_cell_row rfl _ _ gb325 61 #[.bool t344, .slice Ao55 t345.length co55] (0, 0) _ rfl (by (with_reducible repeat (first | refine blk_drewN ?_ _ | refine blk_drew ?_ | refine blk_alloc ?_ _)); refine blk_put (cs := #[.bool t344, .slice none 0 0]) ?_ 1 _ rfl; (with_reducible repeat (first | refine blk_drewN ?_ _ | refine blk_drew ?_ | refine blk_alloc ?_ _)); refine blk_put (cs := #[.bool false, .slice none 0 0]) ?_ 0 _ rfl; (with_reducible repeat (first | refine blk_drewN ?_ _ | refine blk_drew ?_ | refine blk_alloc ?_ _)); exact BK325.out) Tryd.underlying61 rfl (by kernel_rfl)) rfl ?_
   exact ⟨_, by first | rfl | (simp [errW_none, errW_some] <;> rfl) | (simp [*, errW_none, errW_some] <;> rfl), by (with_reducible repeat (first | apply Kd.R_alloc | apply Kd.R_drewN | apply Kd.R_drew)); exact Kd.R_mono (Kd.R_far (p := ⟨gb325, 1, none⟩) (Kd.R_far (p := ⟨gb325, 0, none⟩) (Kd.R_types HO347.out BK325.out (by decide)) (fun _ hk => hk.2) (.bool t344)) (fun _ hk => hk.2) (.slice Ao55 t345.length co55)) (fun _ hk => trivial), bl HB⟩

/-! ### pochoirref02_Neg: function 54 -/
def pochoirref02_Neg.f (k : Nat) (a0_0 : Bool) (l0_1 : List Int) : Option (Bool × List Int) := (pochoirref02_norm.f k (!a0_0) l0_1).bind fun bt350 => (some (bt350.1, bt350.2))
theorem pochoirref02_Neg.mono : ∀ a0 a1 k, LeO (pochoirref02_Neg.f k a0 a1) (pochoirref02_Neg.f (k + 1) a0 a1) := by
 intro a0 a1 k
 unfold pochoirref02_Neg.f
 repeat' first
   | (with_reducible exact pochoirref02_norm.mono _ _ _)
   | (with_reducible exact LeO.refl _)
   | (with_reducible exact LeO.none _)
   | (with_reducible refine LeO.ite ?_ ?_)
   | (with_reducible refine LeO.bind ?_ (fun _ => ?_))
   | exact pochoirref02_norm.mono _ _ _
   | exact LeO.none _
   | refine LeO.ite ?_ ?_
   | refine LeO.bind ?_ (fun _ => ?_)
set_option maxHeartbeats 8000000 in
set_option maxRecDepth 100000 in
theorem pochoirref02_Neg.calls (k : Nat) (a0_0 : Bool) (P0_1_ : Nat → Prop) (u9000_ : Value) (l0_1 : List Int) (r1 : Bool) (r2 : List Int) (w0 w : World) (hB : Below w0.heap.size w0 w) (ho0_1 : Kd.R (Kd.int .u64) 45 w w0.heap.size P0_1_ u9000_ l0_1) (h : pochoirref02_Neg.f k a0_0 l0_1 = some (r1, r2)) :
  Calls Tryd.prog 54 #[.agg #[.bool a0_0, u9000_]] w fun e w' => ∃ v1_ : Value, e = .returned (.agg #[.bool r1, v1_]) ∧ Kd.R (Kd.int .u64) 45 w' w0.heap.size (fun k_ => (P0_1_ k_ ∨ w.heap.size ≤ k_)) v1_ r2 ∧ Below w0.heap.size w0 w' ∧ Kept w w' (fun k_ => P0_1_ k_) := by
 have hu61 := Tryd.underlying61
 have HO0_1 := Aside0.mk (show Kd.R (Kd.int .u64) 45 w w0.heap.size (fun k_ => (P0_1_ k_ ∨ w.heap.size ≤ k_)) u9000_ l0_1 from Kd.R_mono ho0_1 (fun k_ hk => (.inl hk)))
 have HK := Aside0.mk (Kept.refl w (fun k_ => P0_1_ k_))
 have HW0 := Aside0.mk hB.size
 have HB := Aside0.mk hB
 clear hB
 have H : ((pochoirref02_norm.f k (!a0_0) l0_1).bind fun bt350 => (some (bt350.1, bt350.2))) = some (r1, r2) := h
 clear h
 replace H := Option.bind_eq_some_iff.mp H
 obtain ⟨⟨t350, t351⟩, A20, H⟩ := H
 replace H : (some (t350, t351)) = some (r1, r2) := H
 have A2 := Aside0.mk A20
 clear A20
 simp only [Option.some.injEq, Prod.mk.injEq] at H
 obtain ⟨rfl, rfl⟩ := H
 obtain ⟨Ao3, co3, eo3⟩ := Kd.R_slice HO0_1.out
 subst eo3
 go_enter Tryd.func54, Tryd.ntmps54
 go_wp2_with (first | ((with_reducible refine gate_dst (N := 1) rfl ?_); refine box_event ?hg (N := 1) ?hd (cs := #[.bool a0_0, .slice Ao3 l0_1.length co3]) (t := 61) ?hr ?_; (case hd => rfl); (case hg => rfl); (case hr => exact gs_); intro gb348 hg w4 hbox hb; replace HO0_1 := Aside0.mk (Kd.R_below (by (with_reducible repeat (first | apply Kd.R_alloc | apply Kd.R_drewN | apply Kd.R_drew)); exact HO0_1.out) hb); have BK348 := Aside0.mk (hbox); have GW348 := Aside0.mk ((by rw [hg]; exact (by first | exact HK.out.1 | exact (show Kept w _ (fun k_ => P0_1_ k_) from by repeat (first | (with_reducible first | exact HK.out | apply Kept.alloc | apply Kept.drewN | apply Kept.drew) | exact HK.out)).1) : w.heap.size ≤ gb348)); replace HK := Aside0.mk (Kept.below (S := (fun k_ => P0_1_ k_)) (by repeat (first | (with_reducible first | exact HK.out | apply Kept.alloc | apply Kept.drewN | apply Kept.drew) | exact HK.out)) hb); have GE348 := Aside0.mk ((by rw [hg]; exact (below_size (bl HB)) : w0.heap.size ≤ gb348)); replace HB := Aside0.mk (below_step (bl HB) hb); clear hb hbox hg) | ((with_reducible refine gate_dst (N := 2) rfl ?_); refine box_event ?hg (N := 2) ?hd (cs := #[.bool false, .slice none 0 0]) (t := 61) ?hr ?_; (case hd => rfl); (case hg => rfl); (case hr => exact gs_); intro gb349 hg w5 hbox hb; replace HO0_1 := Aside0.mk (Kd.R_below (by (with_reducible repeat (first | apply Kd.R_alloc | apply Kd.R_drewN | apply Kd.R_drew)); exact HO0_1.out) hb); have BK349 := Aside0.mk (hbox); have GW349 := Aside0.mk ((by rw [hg]; exact (by first | exact HK.out.1 | exact (show Kept w _ (fun k_ => P0_1_ k_) from by repeat (first | (with_reducible first | exact HK.out | apply Kept.alloc | apply Kept.drewN | apply Kept.drew | refine Kept.setCell ?_ (.inr GW348.out) _) | exact HK.out)).1) : w.heap.size ≤ gb349)); replace HK := Aside0.mk (Kept.below (S := (fun k_ => P0_1_ k_)) (by repeat (first | (with_reducible first | exact HK.out | apply Kept.alloc | apply Kept.drewN | apply Kept.drew | refine Kept.setCell ?_ (.inr GW348.out) _) | exact HK.out)) hb); have GE349 := Aside0.mk ((by rw [hg]; exact (below_size (bl HB)) : w0.heap.size ≤ gb349)); replace HB := Aside0.mk (below_step (bl HB) hb); have NB348_349 := Aside0.mk ((by rw [hg]; exact Nat.ne_of_lt (blk_lt (kb BK348)) : gb348 ≠ gb349)); have NB349_348 := Aside0.mk ((by rw [hg]; exact Nat.ne_of_gt (blk_lt (kb BK348)) : gb349 ≠ gb348)); replace BK348 := Aside0.mk (blk_below (kb BK348) hb); clear hb hbox hg; have hnb6 := NB348_349.out; have hnc6 := NB349_348.out; have hcz7_0 := ck BK348 0; have hcz7_1 := ck BK348 1; have hfz7_0 := blk_frozen BK348.out 0; have hfz7_1 := blk_frozen BK348.out 1) | ((with_reducible refine gate_callee (f := 55) rfl ?_); refine goesL_ (some 8) rfl rfl Tryd.func55 (by kernel_rfl) rfl #[.bool (!a0_0), .slice Ao3 l0_1.length co3] rfl gm_ ?_; (with_reducible refine (pochoirref02_norm.calls k (!a0_0) (fun k_ => some k_ = (.slice Ao3 l0_1.length co3 : Value).ownBlock) (.slice Ao3 l0_1.length co3) l0_1 t350 t351 w0 _ ?side1 ?side2 A2.out).mono ?_); (case side1 => exact bl HB); (case side2 => exact Kd.R_tight rfl HO0_1.out); rintro e w8 ⟨v352, rfl, ho0, hb, hkp⟩; refine ⟨_, rfl, ?_⟩; replace BK348 := Aside0.mk (blk_kept (kb BK348) hkp (fun hs_ => (fun e_ => (Kd.R_ne HO0_1.out BK348.out (by decide)) e_) hs_)); replace BK349 := Aside0.mk (blk_kept (kb BK349) hkp (fun hs_ => (fun e_ => (Kd.R_ne HO0_1.out BK349.out (by decide)) e_) hs_)); have HO353 := Aside0.mk (Kd.R_mono (ok' := fun k_ => (P0_1_ k_ ∨ w.heap.size ≤ k_)) ho0 (fun k_ hk_ => Or.elim hk_ (fun hs_ => (HO0_1.out.1 k_ (hs_).symm)) (fun hn_ => (.inr (Nat.le_trans (by first | exact HK.out.1 | exact (show Kept w _ (fun k_ => P0_1_ k_) from by repeat (first | (with_reducible first | exact HK.out | apply Kept.alloc | apply Kept.drewN | apply Kept.drew | refine Kept.setCell ?_ (.inr GW348.out) _ | refine Kept.setCell ?_ (.inr GW349.out) _) | exact HK.out)).1) hn_))))); replace HK := Aside0.mk (Kept.then_ (S := (fun k_ => P0_1_ k_)) (by repeat (first | (with_reducible first | exact HK.out | apply Kept.alloc | apply Kept.drewN | apply Kept.drew | refine Kept.setCell ?_ (.inr GW348.out) _ | refine Kept.setCell ?_ (.inr GW349.out) _) | exact HK.out)) hkp (fun k_ hs_ => (fun e_ => (HO0_1.out.1 k_ e_.symm)) hs_)); replace HB := Aside0.mk (hb); clear HO0_1; (try clear hb); (try clear hkp); (try clear ho0); have hcz9_0 := ck BK349 0; have hcz9_1 := ck BK349 1; have hfz9_0 := blk_frozen BK349.out 0; have hfz9_1 := blk_frozen BK349.out 1; obtain ⟨Ao10, co10, eo10⟩ := Kd.R_slice HO353.out; subst eo10))
 refine bodyPost_ret (results_cell_row rfl _ _ gb349 61 #[.bool t350, .slice Ao10 t351.length co10] (0, 0) _ rfl (by (with_reducible repeat (first | refine blk_drewN ?_ _ | refine blk_drew ?_ | refine blk_alloc ?_ _)); refine blk_put (cs := #[.bool t350, .slice none 0 0]) ?_ 1 _ rfl; (with_reducible repeat (first | refine blk_drewN ?_ _ | refine blk_drew ?_ | refine blk_alloc ?_ _)); refine blk_put (cs := #[.bool false, .slice none 0 0]) ?_ 0 _ rfl; (with_reducible repeat (first | refine blk_drewN ?_ _ | refine blk_drew ?_ | refine blk_alloc ?_ _)); exact BK349.out) Tryd.underlying61 rfl (by kernel_rfl)) rfl ?_
 exact ⟨_, by first | rfl | (simp [errW_none, errW_some] <;> rfl) | (simp [*, errW_none, errW_some] <;> rfl), by (with_reducible repeat (first | apply Kd.R_alloc | apply Kd.R_drewN | apply Kd.R_drew)); exact Kd.R_mono (Kd.R_far (p := ⟨gb349, 1, none⟩) (Kd.R_far (p := ⟨gb349, 0, none⟩) (Kd.R_types HO353.out BK349.out (by decide)) (fun _ hk => hk.2) (.bool t350)) (fun _ hk => hk.2) (.slice Ao10 t351.length co10)) (fun _ hk => hk.1), by repeat (first | (with_reducible first | exact HB.out | apply below_alloc | apply pw_below_drewN | apply below_drew1 | refine below_set ?_ GE348.out | refine below_set ?_ GE349.out) | exact HB.out), by repeat (first | (with_reducible first | exact HK.out | apply Kept.alloc | apply Kept.drewN | apply Kept.drew | refine Kept.setCell ?_ (.inr GW348.out) _ | refine Kept.setCell ?_ (.inr GW349.out) _) | exact HK.out)⟩

end Go.Proofs.YtglcjhjmncolpaaDoor.Q
