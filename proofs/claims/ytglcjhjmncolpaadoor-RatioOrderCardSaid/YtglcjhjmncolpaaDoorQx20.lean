-- Written for this claim by a program of the session (wip/print2). Not trusted: Lean checks it.
import Derived.Test.YtglcjhjmncolpaaDoorQx0
import Derived.Test.YtglcjhjmncolpaaDoorQx16
import Derived.Test.YtglcjhjmncolpaaDoorQx17
import Derived.Test.YtglcjhjmncolpaaDoorQx18
import Derived.Test.YtglcjhjmncolpaaDoorQx19
namespace Go.Proofs.YtglcjhjmncolpaaDoor.Q
open Go.RowKit Go.Proofs.YtglcjhjmncolpaaDoorW.PrintWords Go.Proofs.YtglcjhjmncolpaaDoorW.PrintLast Go.Proofs.YtglcjhjmncolpaaDoorW.PrintMore
attribute [local go_sem] max2_int min2_int max_two min_two max_three min_three max_four min_four   -- for this text's walks alone
set_option linter.unusedVariables false
set_option linter.unusedSimpArgs false

/-! ### pochoirref03_Round: function 16 -/
def pochoirref03_Round.f (k : Nat) (a0_0 : Int) (a0_1 : Int) : Option (Int) := (pochoirref03_Floor.f a0_0 a0_1).bind fun t433 => ((pochoirref02_Of.f k a0_0).bind fun bt434 => ((pochoirref03_times.f k t433 a0_1).bind fun bt438 => ((pochoirref02_Sub.f k bt434.1 bt434.2 bt438.1 bt438.2).bind fun bt442 => ((pochoirref02_Add.f k bt442.1 bt442.2 bt442.1 bt442.2).bind fun bt447 => ((pochoirref02_Of.f k a0_1).bind fun bt451 => ((pochoirref02_Cmp.f k bt447.1 bt447.2 bt451.1 bt451.2).bind fun t455 => (if t455 ≥ 0 then (some (wrap64 (t433 + 1))) else (some t433))))))))
theorem pochoirref03_Round.mono : ∀ a0 a1 k, LeO (pochoirref03_Round.f k a0 a1) (pochoirref03_Round.f (k + 1) a0 a1) := by
 intro a0 a1 k
 unfold pochoirref03_Round.f
 repeat' first
   | (with_reducible exact pochoirref02_Add.mono _ _ _ _ _)
   | (with_reducible exact pochoirref02_Cmp.mono _ _ _ _ _)
   | (with_reducible exact pochoirref02_Of.mono _ _)
   | (with_reducible exact pochoirref02_Sub.mono _ _ _ _ _)
   | (with_reducible exact pochoirref03_times.mono _ _ _)
   | (with_reducible exact LeO.refl _)
   | (with_reducible exact LeO.none _)
   | (with_reducible refine LeO.ite ?_ ?_)
   | (with_reducible refine LeO.bind ?_ (fun _ => ?_))
   | exact pochoirref02_Add.mono _ _ _ _ _
   | exact pochoirref02_Cmp.mono _ _ _ _ _
   | exact pochoirref02_Of.mono _ _
   | exact pochoirref02_Sub.mono _ _ _ _ _
   | exact pochoirref03_times.mono _ _ _
   | exact LeO.none _
   | refine LeO.ite ?_ ?_
   | refine LeO.bind ?_ (fun _ => ?_)
def pochoirref03_Round.T2 : Bool × List (List Nat × List Nat) := (true, [([], []), ([0], [0]), ([1], [1]), ([], []), ([], []), ([4], [4]), ([3, 5, 2], [3, 5]), ([2, 6, 6], [2, 6]), ([], []), ([8, 7, 7, 0, 1, 2, 3, 4, 5, 6, 7, 8], [7, 8])])
def pochoirref03_Round.B2 : List Nat := [0, 1, 3, 0, 0, 16, 63, 127, 0, 511]
theorem pochoirref03_Round.tab2 : rtab .any (opsOf Tryd.f16 2) = pochoirref03_Round.T2 := by kernel_rfl
theorem pochoirref03_Round.bits2 : waitsOk pochoirref03_Round.T2.2 pochoirref03_Round.B2 = true := by kernel_rfl
def pochoirref03_Round.T3 : Bool × List (List Nat × List Nat) := (true, [([], []), ([], []), ([0, 1], [0, 1]), ([], []), ([3], [3]), ([4, 2], [4]), ([2, 5, 5], [2, 5]), ([6], [6])])
def pochoirref03_Round.B3 : List Nat := [0, 0, 3, 0, 8, 31, 63, 127]
theorem pochoirref03_Round.tab3 : rtab .any (opsOf Tryd.f16 3) = pochoirref03_Round.T3 := by kernel_rfl
theorem pochoirref03_Round.bits3 : waitsOk pochoirref03_Round.T3.2 pochoirref03_Round.B3 = true := by kernel_rfl
set_option maxHeartbeats 8000000 in
set_option maxRecDepth 100000 in
theorem pochoirref03_Round.calls (k : Nat) (a0_0 : Int) (a0_1 : Int) (r : Int) (w : World) (h : pochoirref03_Round.f k a0_0 a0_1 = some r) :
  Calls Tryd.prog 16 #[.agg #[.int .i64 a0_0, .int .i64 a0_1]] w fun e w' => e = .returned (.int .i64 r) ∧ Below w.heap.size w w' := by
 have hu24 := Tryd.underlying24
 have hu61 := Tryd.underlying61
 have HB := Aside0.mk (Below.refl w.heap.size w)
 have H : ((pochoirref03_Floor.f a0_0 a0_1).bind fun t433 => ((pochoirref02_Of.f k a0_0).bind fun bt434 => ((pochoirref03_times.f k t433 a0_1).bind fun bt438 => ((pochoirref02_Sub.f k bt434.1 bt434.2 bt438.1 bt438.2).bind fun bt442 => ((pochoirref02_Add.f k bt442.1 bt442.2 bt442.1 bt442.2).bind fun bt447 => ((pochoirref02_Of.f k a0_1).bind fun bt451 => ((pochoirref02_Cmp.f k bt447.1 bt447.2 bt451.1 bt451.2).bind fun t455 => (if t455 ≥ 0 then (some (wrap64 (t433 + 1))) else (some t433))))))))) = some r := h
 clear h
 replace H := Option.bind_eq_some_iff.mp H
 obtain ⟨t433, A20, H⟩ := H
 replace H : ((pochoirref02_Of.f k a0_0).bind fun bt434 => ((pochoirref03_times.f k t433 a0_1).bind fun bt438 => ((pochoirref02_Sub.f k bt434.1 bt434.2 bt438.1 bt438.2).bind fun bt442 => ((pochoirref02_Add.f k bt442.1 bt442.2 bt442.1 bt442.2).bind fun bt447 => ((pochoirref02_Of.f k a0_1).bind fun bt451 => ((pochoirref02_Cmp.f k bt447.1 bt447.2 bt451.1 bt451.2).bind fun t455 => (if t455 ≥ 0 then (some (wrap64 (t433 + 1))) else (some t433)))))))) = some r := H
 have A2 := Aside0.mk A20
 clear A20
 replace H := Option.bind_eq_some_iff.mp H
 obtain ⟨⟨t434, t435⟩, A30, H⟩ := H
 replace H : ((pochoirref03_times.f k t433 a0_1).bind fun bt438 => ((pochoirref02_Sub.f k t434 t435 bt438.1 bt438.2).bind fun bt442 => ((pochoirref02_Add.f k bt442.1 bt442.2 bt442.1 bt442.2).bind fun bt447 => ((pochoirref02_Of.f k a0_1).bind fun bt451 => ((pochoirref02_Cmp.f k bt447.1 bt447.2 bt451.1 bt451.2).bind fun t455 => (if t455 ≥ 0 then (some (wrap64 (t433 + 1))) else (some t433))))))) = some r := H
 have A3 := Aside0.mk A30
 clear A30
 replace H := Option.bind_eq_some_iff.mp H
 obtain ⟨⟨t438, t439⟩, A40, H⟩ := H
 replace H : ((pochoirref02_Sub.f k t434 t435 t438 t439).bind fun bt442 => ((pochoirref02_Add.f k bt442.1 bt442.2 bt442.1 bt442.2).bind fun bt447 => ((pochoirref02_Of.f k a0_1).bind fun bt451 => ((pochoirref02_Cmp.f k bt447.1 bt447.2 bt451.1 bt451.2).bind fun t455 => (if t455 ≥ 0 then (some (wrap64 (t433 + 1))) else (some t433)))))) = some r := H
 have A4 := Aside0.mk A40
 clear A40
 replace H := Option.bind_eq_some_iff.mp H
 obtain ⟨⟨t442, t443⟩, A50, H⟩ := H
 replace H : ((pochoirref02_Add.f k t442 t443 t442 t443).bind fun bt447 => ((pochoirref02_Of.f k a0_1).bind fun bt451 => ((pochoirref02_Cmp.f k bt447.1 bt447.2 bt451.1 bt451.2).bind fun t455 => (if t455 ≥ 0 then (some (wrap64 (t433 + 1))) else (some t433))))) = some r := H
 have A5 := Aside0.mk A50
 clear A50
 replace H := Option.bind_eq_some_iff.mp H
 obtain ⟨⟨t447, t448⟩, A60, H⟩ := H
 replace H : ((pochoirref02_Of.f k a0_1).bind fun bt451 => ((pochoirref02_Cmp.f k t447 t448 bt451.1 bt451.2).bind fun t455 => (if t455 ≥ 0 then (some (wrap64 (t433 + 1))) else (some t433)))) = some r := H
 have A6 := Aside0.mk A60
 clear A60
 replace H := Option.bind_eq_some_iff.mp H
 obtain ⟨⟨t451, t452⟩, A70, H⟩ := H
 replace H : ((pochoirref02_Cmp.f k t447 t448 t451 t452).bind fun t455 => (if t455 ≥ 0 then (some (wrap64 (t433 + 1))) else (some t433))) = some r := H
 have A7 := Aside0.mk A70
 clear A70
 replace H := Option.bind_eq_some_iff.mp H
 obtain ⟨t455, A80, H⟩ := H
 replace H : (if t455 ≥ 0 then (some (wrap64 (t433 + 1))) else (some t433)) = some r := H
 have A8 := Aside0.mk A80
 clear A80
 by_cases c9 : t455 ≥ 0
 ·rw [if_pos c9] at H
  have c9b0 : decide (0 ≤ t455) = true := decide_eq_true c9
  clear c9
  obtain rfl := Option.some.inj H
  go_enter Tryd.func16, Tryd.ntmps16
  try go_wp2_with (first | ((with_reducible refine gate_dst (N := 1) rfl ?_); refine box_event ?hg (N := 1) ?hd (cs := #[.int .i64 a0_0, .int .i64 a0_1]) (t := 24) ?hr ?_; (case hd => rfl); (case hg => rfl); (case hr => exact gs_); intro gb432 hg w10 hbox hb; have BK432 := Aside0.mk (hbox); have GW432 := Aside0.mk ((by rw [hg]; exact (below_size (bl HB)) : w.heap.size ≤ gb432)); have GE432 := Aside0.mk ((by rw [hg]; exact (below_size (bl HB)) : w.heap.size ≤ gb432)); replace HB := Aside0.mk (below_step (bl HB) hb); clear hb hbox hg; have hcz11_0 := ck BK432 0; have hcz11_1 := ck BK432 1; have hfz11_0 := blk_frozen BK432.out 0; have hfz11_1 := blk_frozen BK432.out 1) | ((with_reducible refine gate_callee (f := 15) rfl ?_); refine goesL_ (some 6) rfl rfl Tryd.func15 (by kernel_rfl) rfl #[.agg #[.int .i64 a0_0, .int .i64 a0_1]] rfl gm_ ?_; (with_reducible refine (pochoirref03_Floor.calls a0_0 a0_1 t433 _ A2.out).mono ?_); rintro e w12 ⟨rfl, hb⟩; refine ⟨_, rfl, ?_⟩; replace BK432 := Aside0.mk (blk_below (kb BK432) hb); replace HB := Aside0.mk (below_step (bl HB) hb); (try clear hb); (try clear hb2); (try clear hk); (try clear hi)))
  replace BK432 := Aside0.mk (blk_drew BK432.out)
  replace HB := Aside0.mk (below_drew1 HB.out)
  refine start_ (n := 10) (S := fun w' => w'.cell? ⟨gb432, 0, none⟩ = some (.int .i64 a0_0) ∧ w'.cell? ⟨gb432, 1, none⟩ = some (.int .i64 a0_1)) (ds := []) #[false, false, false, false, false, false, false, false, false, false] (by kernel_rfl) rfl rfl ⟨ck BK432 0, ck BK432 1⟩ (fun hHeld => ?_); refine with_tabW pochoirref03_Round.tab2 pochoirref03_Round.bits2 (fun HT_ HW_ => ?_)
  generalize w12.drew = w13 at BK432 HB hHeld ⊢
  refine pure_ (i := 0) (N := some 7) (v := ?_) (a' := ?_) #[true, false, false, false, false, false, false, false, false, false] rfl rfl (any_of HT_.out (by kernel_rfl)) (fun _ _ _ h => h) (Or.inl ⟨by rfl, ?_⟩) ?_ ?_
  rotate_left
  ·intro w'
   go_simp
   with_reducible rfl
  rotate_left
  ·simp only [Act.put, List.setIfInBounds_toArray, List.set_cons_zero, List.set_cons_succ, i64_w, i32_w]
   rfl
  refine pure_ (i := 3) (N := some 10) (v := ?_) (a' := ?_) #[true, false, false, true, false, false, false, false, false, false] rfl rfl (any_of HT_.out (by kernel_rfl)) (fun _ _ _ h => h) (Or.inl ⟨by rfl, ?_⟩) ?_ ?_
  rotate_left
  ·intro w'
   go_simp
   with_reducible rfl
  rotate_left
  ·simp only [Act.put, List.setIfInBounds_toArray, List.set_cons_zero, List.set_cons_succ, i64_w, i32_w]
   rfl
  refine pure_ (i := 4) (N := some 11) (v := ?_) (a' := ?_) #[true, false, false, true, true, false, false, false, false, false] rfl rfl (any_of HT_.out (by kernel_rfl)) (fun _ _ _ h => h) (Or.inl ⟨by rfl, ?_⟩) ?_ ?_
  rotate_left
  ·intro w'
   go_simp
   with_reducible rfl
  rotate_left
  ·simp only [Act.put, List.setIfInBounds_toArray, List.set_cons_zero, List.set_cons_succ, i64_w, i32_w]
   rfl
  refine take_ (i := 1) (N := some 8) (v := ?_) (a' := ?_) #[true, true, false, true, true, false, false, false, false, false] rfl rfl (take_ofW HT_.out HW_.out (by kernel_rfl)) (fun _ _ _ h => h) (Or.inl ⟨by rfl, ?_⟩) hHeld ?_ ?_
  rotate_left
  ·rintro w' ⟨s0, s1⟩
   go_simp
   with_reducible rfl
  rotate_left
  ·simp only [Act.put, List.setIfInBounds_toArray, List.set_cons_zero, List.set_cons_succ, i64_w, i32_w]
   rfl
  refine take_ (i := 5) (N := some 12) (v := ?_) (a' := ?_) #[true, true, false, true, true, true, false, false, false, false] rfl rfl (take_ofW HT_.out HW_.out (by kernel_rfl)) (fun _ _ _ h => h) (Or.inl ⟨by rfl, ?_⟩) hHeld ?_ ?_
  rotate_left
  ·rintro w' ⟨s0, s1⟩
   go_simp
   with_reducible rfl
  rotate_left
  ·simp only [Act.put, List.setIfInBounds_toArray, List.set_cons_zero, List.set_cons_succ, i64_w, i32_w]
   rfl
  refine join_ (σ := Value × Value × Value × Nat) 1 #[true, true, true, true, true, true, true, true, true, false] (fun s_ => [(9, .agg #[.bool t434, s_.1]), (13, .agg #[.bool t438, s_.2.1]), (14, .agg #[.bool t442, s_.2.2.1]), (4, .pointer (some ⟨s_.2.2.2, 0, none⟩))]) (fun s_ w' => (w'.cell? ⟨gb432, 0, none⟩ = some (.int .i64 a0_0) ∧ w'.cell? ⟨gb432, 1, none⟩ = some (.int .i64 a0_1)) ∧ (Kd.R (Kd.int .u64) 45 w' w.heap.size (fun k_ => some k_ ≠ (s_.2.2.1 : Value).ownBlock) s_.1 t435) ∧ (Kd.R (Kd.int .u64) 45 w' w.heap.size (fun k_ => some k_ ≠ (s_.1 : Value).ownBlock) s_.2.2.1 t443) ∧ (w'.heap[gb432]? = some (.cells #[.int .i64 a0_0, .int .i64 a0_1] 24 (0, 0))) ∧ (w'.heap[s_.2.2.2]? = some (.cells #[.bool false, .slice none 0 0] 61 (0, 0))) ∧ (w.heap.size ≤ s_.2.2.2) ∧ (w.heap.size ≤ s_.2.2.2) ∧ (gb432 ≠ s_.2.2.2) ∧ (s_.2.2.2 ≠ gb432) ∧ (Below w.heap.size w w')) ?_ ?_
  rotate_left
  ·intro hCont
   refine two_ (i := 2) (j := 8) (Ni := some 9) (Nj := some 4) #[true, true, true, true, true, true, false, false, false, false] #[true, true, false, true, true, true, false, false, true, false] rfl rfl rfl rfl (two_of HT_.out (by kernel_rfl)) (by decide) (by decide) (fun K hK => ?_) (fun K hK => ?_)
   ·skip
    refine goes_ Tryd.func39 (by kernel_rfl) rfl #[.int .i64 a0_0] (by rfl) rfl rfl gm_ ?_
    with_reducible refine (pochoirref02_Of.calls k a0_0 t434 t435 _ A3.out).mono ?_
    rintro e w14 ⟨v436, rfl, ho0, hb⟩
    refine ⟨_, rfl, ?_⟩
    have HO437 := Aside0.mk (Kd.R_lower ho0 (below_size (bl HB)))
    replace BK432 := Aside0.mk (blk_below (kb BK432) hb)
    replace HB := Aside0.mk (below_step (bl HB) hb)
    (try clear hb)
    (try clear hb2)
    (try clear hk)
    (try clear hi)
    (try clear ho0)
    refine hK.out _ _ ⟨ck BK432 0, ck BK432 1⟩ (fun hHeld => ?_)
    clear hK K
    refine norm_ (a' := ?_) ?_ ?_
    rotate_left
    ·show Act.put _ (some 9) _ = _
     simp only [Act.put, List.setIfInBounds_toArray, List.set_cons_zero, List.set_cons_succ, i64_w, i32_w]
     rfl
    refine two_ (i := 6) (j := 8) (Ni := some 13) (Nj := some 4) #[true, true, true, true, true, true, true, false, false, false] #[true, true, true, true, true, true, false, false, true, false] rfl rfl rfl rfl (two_of HT_.out (by kernel_rfl)) (by decide) (by decide) (fun K hK => ?_) (fun K hK => ?_)
    ·skip
     refine goes_ Tryd.func37 (by kernel_rfl) rfl #[.int .i64 t433, .int .i64 a0_1] (by rfl) rfl rfl gm_ ?_
     with_reducible refine (pochoirref03_times.calls k t433 a0_1 t438 t439 _ A4.out).mono ?_
     rintro e w15 ⟨v440, rfl, ho0, hb⟩
     refine ⟨_, rfl, ?_⟩
     have HO441 := Aside0.mk (Kd.R_lower (Kd.R_new' ho0 (Kd.R_lt (by (with_reducible repeat (first | apply Kd.R_alloc | apply Kd.R_drewN | apply Kd.R_drew)); exact HO437.out))) (below_size (bl HB)))
     replace HO437 := Aside0.mk (Kd.R_elder' (by (with_reducible repeat (first | apply Kd.R_alloc | apply Kd.R_drewN | apply Kd.R_drew)); exact HO437.out) (Kd.R_base ho0) hb)
     replace BK432 := Aside0.mk (blk_below (kb BK432) hb)
     replace HB := Aside0.mk (below_step (bl HB) hb)
     (try clear hb)
     (try clear hb2)
     (try clear hk)
     (try clear hi)
     (try clear ho0)
     obtain ⟨Ao16, co16, eo16⟩ := Kd.R_slice HO437.out
     (first | subst eo16 | (injection eo16 with f1_ f2_ f3_; have f4_ := f1_.symm; have f5_ := f3_.symm; clear f1_ f2_ f3_; subst f4_; subst f5_))
     obtain ⟨Ao17, co17, eo17⟩ := Kd.R_slice HO441.out
     (first | subst eo17 | (injection eo17 with f1_ f2_ f3_; have f4_ := f1_.symm; have f5_ := f3_.symm; clear f1_ f2_ f3_; subst f4_; subst f5_))
     refine hK.out _ _ ⟨ck BK432 0, ck BK432 1⟩ (fun hHeld => ?_)
     clear hK K
     refine norm_ (a' := ?_) ?_ ?_
     rotate_left
     ·show Act.put _ (some 13) _ = _
      simp only [Act.put, List.setIfInBounds_toArray, List.set_cons_zero, List.set_cons_succ, i64_w, i32_w]
      rfl
     refine two_ (i := 7) (j := 8) (Ni := some 14) (Nj := some 4) #[true, true, true, true, true, true, true, true, false, false] #[true, true, true, true, true, true, true, false, true, false] rfl rfl rfl rfl (two_of HT_.out (by kernel_rfl)) (by decide) (by decide) (fun K hK => ?_) (fun K hK => ?_)
     ·skip
      refine goes_ Tryd.func38 (by kernel_rfl) rfl #[.agg #[.bool t434, .slice Ao16 t435.length co16], .agg #[.bool t438, .slice Ao17 t439.length co17]] (by rfl) rfl rfl gm_ ?_
      with_reducible refine (pochoirref02_Sub.calls k t434 _ _ t435 t438 (fun k_ => some k_ = (.slice Ao17 t439.length co17 : Value).ownBlock) (.slice Ao17 t439.length co17) t439 t442 t443 w _ ?side1 ?side2 ?side3 ?side4 A5.out).mono ?_
      (case side1 => exact bl HB)
      (case side2 => exact Kd.C_kept_own (HO437.out) (fun k_ hk_ hs_ => (hk_.2) hs_))
      (case side3 => exact (Kd.R_reads' HO437.out).2.1)
      (case side4 => exact Kd.R_tight rfl HO441.out)
      rintro e w18 ⟨v444, rfl, ho0, hb, hkp⟩
      refine ⟨_, rfl, ?_⟩
      replace BK432 := Aside0.mk (blk_kept (kb BK432) hkp (fun hs_ => (fun e_ => (Kd.R_ne HO441.out BK432.out (by decide)) e_) hs_))
      have HO445 := Aside0.mk (Kd.R_mono (ok' := fun k_ => some k_ ≠ (.slice Ao16 t435.length co16 : Value).ownBlock) ho0 (fun k_ hk_ => Or.elim hk_ (fun hs_ => fun e_ => (((HO437.out).1 k_ e_.symm).2) hs_) (fun hn_ => (Kd.fresh' (Kd.R_lt (by (with_reducible repeat (first | apply Kd.R_alloc | apply Kd.R_drewN | apply Kd.R_drew)); exact HO437.out)) k_ hn_))))
      replace HO437 := Aside0.mk (Kd.R_mono (ok' := fun k_ => some k_ ≠ (v444 : Value).ownBlock) (Kd.R_keptB (HO437.out) hkp (fun k_ hk_ hs_ => (hk_.2) hs_)) (fun k_ hk_ => fun e_ => Or.elim (ho0.1 k_ e_.symm) (fun hs_ => hk_.2.1 hs_) (fun hn_ => Nat.not_le.2 hk_.2.2 hn_)))
      replace HB := Aside0.mk (hb)
      clear HO441
      (try clear hb)
      (try clear hkp)
      (try clear ho0)
      refine hK.out _ _ ⟨ck BK432 0, ck BK432 1⟩ (fun hHeld => ?_)
      clear hK K
      refine norm_ (a' := ?_) ?_ ?_
      rotate_left
      ·show Act.put _ (some 14) _ = _
       simp only [Act.put, List.setIfInBounds_toArray, List.set_cons_zero, List.set_cons_succ, i64_w, i32_w]
       rfl
      refine one_ (i := 8) (N := some 4) #[true, true, true, true, true, true, true, true, true, false] rfl rfl (one_of HT_.out (by kernel_rfl)) (by decide) (fun K hK => ?_)
      refine box_step ?hg (N := 4) ?hd (cs := #[.bool false, .slice none 0 0]) (t := 61) ?hr ?_; (case hd => rfl); (case hg => rfl); (case hr => exact gs_)
      intro gb446 hg w19 hbox hb
      replace HO437 := Aside0.mk (Kd.R_below (by (with_reducible repeat (first | apply Kd.R_alloc | apply Kd.R_drewN | apply Kd.R_drew)); exact HO437.out) hb)
      replace HO445 := Aside0.mk (Kd.R_below (by (with_reducible repeat (first | apply Kd.R_alloc | apply Kd.R_drewN | apply Kd.R_drew)); exact HO445.out) hb)
      have BK446 := Aside0.mk (hbox)
      have GW446 := Aside0.mk ((by rw [hg]; exact (below_size (bl HB)) : w.heap.size ≤ gb446))
      have GE446 := Aside0.mk ((by rw [hg]; exact (below_size (bl HB)) : w.heap.size ≤ gb446))
      replace HB := Aside0.mk (below_step (bl HB) hb)
      have NB432_446 := Aside0.mk ((by rw [hg]; exact Nat.ne_of_lt (blk_lt (kb BK432)) : gb432 ≠ gb446))
      have NB446_432 := Aside0.mk ((by rw [hg]; exact Nat.ne_of_gt (blk_lt (kb BK432)) : gb446 ≠ gb432))
      replace BK432 := Aside0.mk (blk_below (kb BK432) hb)
      clear hb hbox hg
      refine hK.out _ _ ⟨ck BK432 0, ck BK432 1⟩ (fun hHeld => ?_)
      clear hK K
      refine norm_ (a' := ?_) ?_ ?_
      rotate_left
      ·show Act.put _ (some 4) _ = _
       simp only [Act.put, List.setIfInBounds_toArray, List.set_cons_zero, List.set_cons_succ, i64_w, i32_w]
       rfl
      exact norm_ (by simp only [putAll, Act.put, List.setIfInBounds_toArray, List.set_cons_zero, List.set_cons_succ]) (hCont (.slice Ao16 t435.length co16, .slice Ao17 t439.length co17, v444, gb446) _ ⟨hHeld, (by (with_reducible repeat (first | apply Kd.R_alloc | apply Kd.R_drewN | apply Kd.R_drew)); exact HO437.out), (by (with_reducible repeat (first | apply Kd.R_alloc | apply Kd.R_drewN | apply Kd.R_drew)); exact HO445.out), (kb BK432), (kb BK446), GW446.out, GE446.out, NB432_446.out, NB446_432.out, (bl HB)⟩)
     ·skip
      refine box_step ?hg (N := 4) ?hd (cs := #[.bool false, .slice none 0 0]) (t := 61) ?hr ?_; (case hd => rfl); (case hg => rfl); (case hr => exact gs_)
      intro gb446 hg w16 hbox hb
      replace HO437 := Aside0.mk (Kd.R_below (by (with_reducible repeat (first | apply Kd.R_alloc | apply Kd.R_drewN | apply Kd.R_drew)); exact HO437.out) hb)
      replace HO441 := Aside0.mk (Kd.R_below (by (with_reducible repeat (first | apply Kd.R_alloc | apply Kd.R_drewN | apply Kd.R_drew)); exact HO441.out) hb)
      have BK446 := Aside0.mk (hbox)
      have GW446 := Aside0.mk ((by rw [hg]; exact (below_size (bl HB)) : w.heap.size ≤ gb446))
      have GE446 := Aside0.mk ((by rw [hg]; exact (below_size (bl HB)) : w.heap.size ≤ gb446))
      replace HB := Aside0.mk (below_step (bl HB) hb)
      have NB432_446 := Aside0.mk ((by rw [hg]; exact Nat.ne_of_lt (blk_lt (kb BK432)) : gb432 ≠ gb446))
      have NB446_432 := Aside0.mk ((by rw [hg]; exact Nat.ne_of_gt (blk_lt (kb BK432)) : gb446 ≠ gb432))
      replace BK432 := Aside0.mk (blk_below (kb BK432) hb)
      clear hb hbox hg
      obtain ⟨Ao17, co17, eo17⟩ := Kd.R_slice HO437.out
      (first | subst eo17 | (injection eo17 with f1_ f2_ f3_; have f4_ := f1_.symm; have f5_ := f3_.symm; clear f1_ f2_ f3_; subst f4_; subst f5_))
      obtain ⟨Ao18, co18, eo18⟩ := Kd.R_slice HO441.out
      (first | subst eo18 | (injection eo18 with f1_ f2_ f3_; have f4_ := f1_.symm; have f5_ := f3_.symm; clear f1_ f2_ f3_; subst f4_; subst f5_))
      refine hK.out _ _ ⟨ck BK432 0, ck BK432 1⟩ (fun hHeld => ?_)
      clear hK K
      refine norm_ (a' := ?_) ?_ ?_
      rotate_left
      ·show Act.put _ (some 4) _ = _
       simp only [Act.put, List.setIfInBounds_toArray, List.set_cons_zero, List.set_cons_succ, i64_w, i32_w]
       rfl
      refine one_ (i := 7) (N := some 14) #[true, true, true, true, true, true, true, true, true, false] rfl rfl (one_of HT_.out (by kernel_rfl)) (by decide) (fun K hK => ?_)
      refine goes_ Tryd.func38 (by kernel_rfl) rfl #[.agg #[.bool t434, .slice Ao17 t435.length co17], .agg #[.bool t438, .slice Ao18 t439.length co18]] (by rfl) rfl rfl gm_ ?_
      with_reducible refine (pochoirref02_Sub.calls k t434 _ _ t435 t438 (fun k_ => some k_ = (.slice Ao18 t439.length co18 : Value).ownBlock) (.slice Ao18 t439.length co18) t439 t442 t443 w _ ?side1 ?side2 ?side3 ?side4 A5.out).mono ?_
      (case side1 => exact bl HB)
      (case side2 => exact Kd.C_kept_own (HO437.out) (fun k_ hk_ hs_ => (hk_.2) hs_))
      (case side3 => exact (Kd.R_reads' HO437.out).2.1)
      (case side4 => exact Kd.R_tight rfl HO441.out)
      rintro e w19 ⟨v444, rfl, ho0, hb, hkp⟩
      refine ⟨_, rfl, ?_⟩
      replace BK432 := Aside0.mk (blk_kept (kb BK432) hkp (fun hs_ => (fun e_ => (Kd.R_ne HO441.out BK432.out (by decide)) e_) hs_))
      replace BK446 := Aside0.mk (blk_kept (kb BK446) hkp (fun hs_ => (fun e_ => (Kd.R_ne HO441.out BK446.out (by decide)) e_) hs_))
      have HO445 := Aside0.mk (Kd.R_mono (ok' := fun k_ => some k_ ≠ (.slice Ao17 t435.length co17 : Value).ownBlock) ho0 (fun k_ hk_ => Or.elim hk_ (fun hs_ => fun e_ => (((HO437.out).1 k_ e_.symm).2) hs_) (fun hn_ => (Kd.fresh' (Kd.R_lt (by (with_reducible repeat (first | apply Kd.R_alloc | apply Kd.R_drewN | apply Kd.R_drew)); exact HO437.out)) k_ hn_))))
      replace HO437 := Aside0.mk (Kd.R_mono (ok' := fun k_ => some k_ ≠ (v444 : Value).ownBlock) (Kd.R_keptB (HO437.out) hkp (fun k_ hk_ hs_ => (hk_.2) hs_)) (fun k_ hk_ => fun e_ => Or.elim (ho0.1 k_ e_.symm) (fun hs_ => hk_.2.1 hs_) (fun hn_ => Nat.not_le.2 hk_.2.2 hn_)))
      replace HB := Aside0.mk (hb)
      clear HO441
      (try clear hb)
      (try clear hkp)
      (try clear ho0)
      refine hK.out _ _ ⟨ck BK432 0, ck BK432 1⟩ (fun hHeld => ?_)
      clear hK K
      refine norm_ (a' := ?_) ?_ ?_
      rotate_left
      ·show Act.put _ (some 14) _ = _
       simp only [Act.put, List.setIfInBounds_toArray, List.set_cons_zero, List.set_cons_succ, i64_w, i32_w]
       rfl
      exact norm_ (by simp only [putAll, Act.put, List.setIfInBounds_toArray, List.set_cons_zero, List.set_cons_succ]) (hCont (.slice Ao17 t435.length co17, .slice Ao18 t439.length co18, v444, gb446) _ ⟨hHeld, (by (with_reducible repeat (first | apply Kd.R_alloc | apply Kd.R_drewN | apply Kd.R_drew)); exact HO437.out), (by (with_reducible repeat (first | apply Kd.R_alloc | apply Kd.R_drewN | apply Kd.R_drew)); exact HO445.out), (kb BK432), (kb BK446), GW446.out, GE446.out, NB432_446.out, NB446_432.out, (bl HB)⟩)
    ·skip
     refine box_step ?hg (N := 4) ?hd (cs := #[.bool false, .slice none 0 0]) (t := 61) ?hr ?_; (case hd => rfl); (case hg => rfl); (case hr => exact gs_)
     intro gb446 hg w15 hbox hb
     replace HO437 := Aside0.mk (Kd.R_below (by (with_reducible repeat (first | apply Kd.R_alloc | apply Kd.R_drewN | apply Kd.R_drew)); exact HO437.out) hb)
     have BK446 := Aside0.mk (hbox)
     have GW446 := Aside0.mk ((by rw [hg]; exact (below_size (bl HB)) : w.heap.size ≤ gb446))
     have GE446 := Aside0.mk ((by rw [hg]; exact (below_size (bl HB)) : w.heap.size ≤ gb446))
     replace HB := Aside0.mk (below_step (bl HB) hb)
     have NB432_446 := Aside0.mk ((by rw [hg]; exact Nat.ne_of_lt (blk_lt (kb BK432)) : gb432 ≠ gb446))
     have NB446_432 := Aside0.mk ((by rw [hg]; exact Nat.ne_of_gt (blk_lt (kb BK432)) : gb446 ≠ gb432))
     replace BK432 := Aside0.mk (blk_below (kb BK432) hb)
     clear hb hbox hg
     refine hK.out _ _ ⟨ck BK432 0, ck BK432 1⟩ (fun hHeld => ?_)
     clear hK K
     refine norm_ (a' := ?_) ?_ ?_
     rotate_left
     ·show Act.put _ (some 4) _ = _
      simp only [Act.put, List.setIfInBounds_toArray, List.set_cons_zero, List.set_cons_succ, i64_w, i32_w]
      rfl
     refine one_ (i := 6) (N := some 13) #[true, true, true, true, true, true, true, false, true, false] rfl rfl (one_of HT_.out (by kernel_rfl)) (by decide) (fun K hK => ?_)
     refine goes_ Tryd.func37 (by kernel_rfl) rfl #[.int .i64 t433, .int .i64 a0_1] (by rfl) rfl rfl gm_ ?_
     with_reducible refine (pochoirref03_times.calls k t433 a0_1 t438 t439 _ A4.out).mono ?_
     rintro e w16 ⟨v440, rfl, ho0, hb⟩
     refine ⟨_, rfl, ?_⟩
     have HO441 := Aside0.mk (Kd.R_lower (Kd.R_new' ho0 (Kd.R_lt (by (with_reducible repeat (first | apply Kd.R_alloc | apply Kd.R_drewN | apply Kd.R_drew)); exact HO437.out))) (below_size (bl HB)))
     replace HO437 := Aside0.mk (Kd.R_elder' (by (with_reducible repeat (first | apply Kd.R_alloc | apply Kd.R_drewN | apply Kd.R_drew)); exact HO437.out) (Kd.R_base ho0) hb)
     replace BK432 := Aside0.mk (blk_below (kb BK432) hb)
     replace BK446 := Aside0.mk (blk_below (kb BK446) hb)
     replace HB := Aside0.mk (below_step (bl HB) hb)
     (try clear hb)
     (try clear hb2)
     (try clear hk)
     (try clear hi)
     (try clear ho0)
     obtain ⟨Ao17, co17, eo17⟩ := Kd.R_slice HO437.out
     (first | subst eo17 | (injection eo17 with f1_ f2_ f3_; have f4_ := f1_.symm; have f5_ := f3_.symm; clear f1_ f2_ f3_; subst f4_; subst f5_))
     obtain ⟨Ao18, co18, eo18⟩ := Kd.R_slice HO441.out
     (first | subst eo18 | (injection eo18 with f1_ f2_ f3_; have f4_ := f1_.symm; have f5_ := f3_.symm; clear f1_ f2_ f3_; subst f4_; subst f5_))
     refine hK.out _ _ ⟨ck BK432 0, ck BK432 1⟩ (fun hHeld => ?_)
     clear hK K
     refine norm_ (a' := ?_) ?_ ?_
     rotate_left
     ·show Act.put _ (some 13) _ = _
      simp only [Act.put, List.setIfInBounds_toArray, List.set_cons_zero, List.set_cons_succ, i64_w, i32_w]
      rfl
     refine one_ (i := 7) (N := some 14) #[true, true, true, true, true, true, true, true, true, false] rfl rfl (one_of HT_.out (by kernel_rfl)) (by decide) (fun K hK => ?_)
     refine goes_ Tryd.func38 (by kernel_rfl) rfl #[.agg #[.bool t434, .slice Ao17 t435.length co17], .agg #[.bool t438, .slice Ao18 t439.length co18]] (by rfl) rfl rfl gm_ ?_
     with_reducible refine (pochoirref02_Sub.calls k t434 _ _ t435 t438 (fun k_ => some k_ = (.slice Ao18 t439.length co18 : Value).ownBlock) (.slice Ao18 t439.length co18) t439 t442 t443 w _ ?side1 ?side2 ?side3 ?side4 A5.out).mono ?_
     (case side1 => exact bl HB)
     (case side2 => exact Kd.C_kept_own (HO437.out) (fun k_ hk_ hs_ => (hk_.2) hs_))
     (case side3 => exact (Kd.R_reads' HO437.out).2.1)
     (case side4 => exact Kd.R_tight rfl HO441.out)
     rintro e w19 ⟨v444, rfl, ho0, hb, hkp⟩
     refine ⟨_, rfl, ?_⟩
     replace BK432 := Aside0.mk (blk_kept (kb BK432) hkp (fun hs_ => (fun e_ => (Kd.R_ne HO441.out BK432.out (by decide)) e_) hs_))
     replace BK446 := Aside0.mk (blk_kept (kb BK446) hkp (fun hs_ => (fun e_ => (Kd.R_ne HO441.out BK446.out (by decide)) e_) hs_))
     have HO445 := Aside0.mk (Kd.R_mono (ok' := fun k_ => some k_ ≠ (.slice Ao17 t435.length co17 : Value).ownBlock) ho0 (fun k_ hk_ => Or.elim hk_ (fun hs_ => fun e_ => (((HO437.out).1 k_ e_.symm).2) hs_) (fun hn_ => (Kd.fresh' (Kd.R_lt (by (with_reducible repeat (first | apply Kd.R_alloc | apply Kd.R_drewN | apply Kd.R_drew)); exact HO437.out)) k_ hn_))))
     replace HO437 := Aside0.mk (Kd.R_mono (ok' := fun k_ => some k_ ≠ (v444 : Value).ownBlock) (Kd.R_keptB (HO437.out) hkp (fun k_ hk_ hs_ => (hk_.2) hs_)) (fun k_ hk_ => fun e_ => Or.elim (ho0.1 k_ e_.symm) (fun hs_ => hk_.2.1 hs_) (fun hn_ => Nat.not_le.2 hk_.2.2 hn_)))
     replace HB := Aside0.mk (hb)
     clear HO441
     (try clear hb)
     (try clear hkp)
     (try clear ho0)
     refine hK.out _ _ ⟨ck BK432 0, ck BK432 1⟩ (fun hHeld => ?_)
     clear hK K
     refine norm_ (a' := ?_) ?_ ?_
     rotate_left
     ·show Act.put _ (some 14) _ = _
      simp only [Act.put, List.setIfInBounds_toArray, List.set_cons_zero, List.set_cons_succ, i64_w, i32_w]
      rfl
     exact norm_ (by simp only [putAll, Act.put, List.setIfInBounds_toArray, List.set_cons_zero, List.set_cons_succ]) (hCont (.slice Ao17 t435.length co17, .slice Ao18 t439.length co18, v444, gb446) _ ⟨hHeld, (by (with_reducible repeat (first | apply Kd.R_alloc | apply Kd.R_drewN | apply Kd.R_drew)); exact HO437.out), (by (with_reducible repeat (first | apply Kd.R_alloc | apply Kd.R_drewN | apply Kd.R_drew)); exact HO445.out), (kb BK432), (kb BK446), GW446.out, GE446.out, NB432_446.out, NB446_432.out, (bl HB)⟩)
   ·skip
    refine box_step ?hg (N := 4) ?hd (cs := #[.bool false, .slice none 0 0]) (t := 61) ?hr ?_; (case hd => rfl); (case hg => rfl); (case hr => exact gs_)
    intro gb446 hg w14 hbox hb
    have BK446 := Aside0.mk (hbox)
    have GW446 := Aside0.mk ((by rw [hg]; exact (below_size (bl HB)) : w.heap.size ≤ gb446))
    have GE446 := Aside0.mk ((by rw [hg]; exact (below_size (bl HB)) : w.heap.size ≤ gb446))
    replace HB := Aside0.mk (below_step (bl HB) hb)
    have NB432_446 := Aside0.mk ((by rw [hg]; exact Nat.ne_of_lt (blk_lt (kb BK432)) : gb432 ≠ gb446))
    have NB446_432 := Aside0.mk ((by rw [hg]; exact Nat.ne_of_gt (blk_lt (kb BK432)) : gb446 ≠ gb432))
    replace BK432 := Aside0.mk (blk_below (kb BK432) hb)
    clear hb hbox hg
    refine hK.out _ _ ⟨ck BK432 0, ck BK432 1⟩ (fun hHeld => ?_)
    clear hK K
    refine norm_ (a' := ?_) ?_ ?_
    rotate_left
    ·show Act.put _ (some 4) _ = _
     simp only [Act.put, List.setIfInBounds_toArray, List.set_cons_zero, List.set_cons_succ, i64_w, i32_w]
     rfl
    refine one_ (i := 2) (N := some 9) #[true, true, true, true, true, true, false, false, true, false] rfl rfl (one_of HT_.out (by kernel_rfl)) (by decide) (fun K hK => ?_)
    refine goes_ Tryd.func39 (by kernel_rfl) rfl #[.int .i64 a0_0] (by rfl) rfl rfl gm_ ?_
    with_reducible refine (pochoirref02_Of.calls k a0_0 t434 t435 _ A3.out).mono ?_
    rintro e w15 ⟨v436, rfl, ho0, hb⟩
    refine ⟨_, rfl, ?_⟩
    have HO437 := Aside0.mk (Kd.R_lower ho0 (below_size (bl HB)))
    replace BK432 := Aside0.mk (blk_below (kb BK432) hb)
    replace BK446 := Aside0.mk (blk_below (kb BK446) hb)
    replace HB := Aside0.mk (below_step (bl HB) hb)
    (try clear hb)
    (try clear hb2)
    (try clear hk)
    (try clear hi)
    (try clear ho0)
    refine hK.out _ _ ⟨ck BK432 0, ck BK432 1⟩ (fun hHeld => ?_)
    clear hK K
    refine norm_ (a' := ?_) ?_ ?_
    rotate_left
    ·show Act.put _ (some 9) _ = _
     simp only [Act.put, List.setIfInBounds_toArray, List.set_cons_zero, List.set_cons_succ, i64_w, i32_w]
     rfl
    refine one_ (i := 6) (N := some 13) #[true, true, true, true, true, true, true, false, true, false] rfl rfl (one_of HT_.out (by kernel_rfl)) (by decide) (fun K hK => ?_)
    refine goes_ Tryd.func37 (by kernel_rfl) rfl #[.int .i64 t433, .int .i64 a0_1] (by rfl) rfl rfl gm_ ?_
    with_reducible refine (pochoirref03_times.calls k t433 a0_1 t438 t439 _ A4.out).mono ?_
    rintro e w16 ⟨v440, rfl, ho0, hb⟩
    refine ⟨_, rfl, ?_⟩
    have HO441 := Aside0.mk (Kd.R_lower (Kd.R_new' ho0 (Kd.R_lt (by (with_reducible repeat (first | apply Kd.R_alloc | apply Kd.R_drewN | apply Kd.R_drew)); exact HO437.out))) (below_size (bl HB)))
    replace HO437 := Aside0.mk (Kd.R_elder' (by (with_reducible repeat (first | apply Kd.R_alloc | apply Kd.R_drewN | apply Kd.R_drew)); exact HO437.out) (Kd.R_base ho0) hb)
    replace BK432 := Aside0.mk (blk_below (kb BK432) hb)
    replace BK446 := Aside0.mk (blk_below (kb BK446) hb)
    replace HB := Aside0.mk (below_step (bl HB) hb)
    (try clear hb)
    (try clear hb2)
    (try clear hk)
    (try clear hi)
    (try clear ho0)
    obtain ⟨Ao17, co17, eo17⟩ := Kd.R_slice HO437.out
    (first | subst eo17 | (injection eo17 with f1_ f2_ f3_; have f4_ := f1_.symm; have f5_ := f3_.symm; clear f1_ f2_ f3_; subst f4_; subst f5_))
    obtain ⟨Ao18, co18, eo18⟩ := Kd.R_slice HO441.out
    (first | subst eo18 | (injection eo18 with f1_ f2_ f3_; have f4_ := f1_.symm; have f5_ := f3_.symm; clear f1_ f2_ f3_; subst f4_; subst f5_))
    refine hK.out _ _ ⟨ck BK432 0, ck BK432 1⟩ (fun hHeld => ?_)
    clear hK K
    refine norm_ (a' := ?_) ?_ ?_
    rotate_left
    ·show Act.put _ (some 13) _ = _
     simp only [Act.put, List.setIfInBounds_toArray, List.set_cons_zero, List.set_cons_succ, i64_w, i32_w]
     rfl
    refine one_ (i := 7) (N := some 14) #[true, true, true, true, true, true, true, true, true, false] rfl rfl (one_of HT_.out (by kernel_rfl)) (by decide) (fun K hK => ?_)
    refine goes_ Tryd.func38 (by kernel_rfl) rfl #[.agg #[.bool t434, .slice Ao17 t435.length co17], .agg #[.bool t438, .slice Ao18 t439.length co18]] (by rfl) rfl rfl gm_ ?_
    with_reducible refine (pochoirref02_Sub.calls k t434 _ _ t435 t438 (fun k_ => some k_ = (.slice Ao18 t439.length co18 : Value).ownBlock) (.slice Ao18 t439.length co18) t439 t442 t443 w _ ?side1 ?side2 ?side3 ?side4 A5.out).mono ?_
    (case side1 => exact bl HB)
    (case side2 => exact Kd.C_kept_own (HO437.out) (fun k_ hk_ hs_ => (hk_.2) hs_))
    (case side3 => exact (Kd.R_reads' HO437.out).2.1)
    (case side4 => exact Kd.R_tight rfl HO441.out)
    rintro e w19 ⟨v444, rfl, ho0, hb, hkp⟩
    refine ⟨_, rfl, ?_⟩
    replace BK432 := Aside0.mk (blk_kept (kb BK432) hkp (fun hs_ => (fun e_ => (Kd.R_ne HO441.out BK432.out (by decide)) e_) hs_))
    replace BK446 := Aside0.mk (blk_kept (kb BK446) hkp (fun hs_ => (fun e_ => (Kd.R_ne HO441.out BK446.out (by decide)) e_) hs_))
    have HO445 := Aside0.mk (Kd.R_mono (ok' := fun k_ => some k_ ≠ (.slice Ao17 t435.length co17 : Value).ownBlock) ho0 (fun k_ hk_ => Or.elim hk_ (fun hs_ => fun e_ => (((HO437.out).1 k_ e_.symm).2) hs_) (fun hn_ => (Kd.fresh' (Kd.R_lt (by (with_reducible repeat (first | apply Kd.R_alloc | apply Kd.R_drewN | apply Kd.R_drew)); exact HO437.out)) k_ hn_))))
    replace HO437 := Aside0.mk (Kd.R_mono (ok' := fun k_ => some k_ ≠ (v444 : Value).ownBlock) (Kd.R_keptB (HO437.out) hkp (fun k_ hk_ hs_ => (hk_.2) hs_)) (fun k_ hk_ => fun e_ => Or.elim (ho0.1 k_ e_.symm) (fun hs_ => hk_.2.1 hs_) (fun hn_ => Nat.not_le.2 hk_.2.2 hn_)))
    replace HB := Aside0.mk (hb)
    clear HO441
    (try clear hb)
    (try clear hkp)
    (try clear ho0)
    refine hK.out _ _ ⟨ck BK432 0, ck BK432 1⟩ (fun hHeld => ?_)
    clear hK K
    refine norm_ (a' := ?_) ?_ ?_
    rotate_left
    ·show Act.put _ (some 14) _ = _
     simp only [Act.put, List.setIfInBounds_toArray, List.set_cons_zero, List.set_cons_succ, i64_w, i32_w]
     rfl
    exact norm_ (by simp only [putAll, Act.put, List.setIfInBounds_toArray, List.set_cons_zero, List.set_cons_succ]) (hCont (.slice Ao17 t435.length co17, .slice Ao18 t439.length co18, v444, gb446) _ ⟨hHeld, (by (with_reducible repeat (first | apply Kd.R_alloc | apply Kd.R_drewN | apply Kd.R_drew)); exact HO437.out), (by (with_reducible repeat (first | apply Kd.R_alloc | apply Kd.R_drewN | apply Kd.R_drew)); exact HO445.out), (kb BK432), (kb BK446), GW446.out, GE446.out, NB432_446.out, NB446_432.out, (bl HB)⟩)
  rintro ⟨v436, v440, v444, gb446⟩ w20 ⟨hS_, h0_, h1_, h2_, h3_, h4_, h5_, h6_, h7_, h8_⟩
  have n0_ : Aside0 (Kd.R (Kd.int .u64) 45 w20 w.heap.size (fun k_ => some k_ ≠ (v444 : Value).ownBlock) v436 t435) := ⟨h0_⟩
  have n1_ : Aside0 (Kd.R (Kd.int .u64) 45 w20 w.heap.size (fun k_ => some k_ ≠ (v436 : Value).ownBlock) v444 t443) := ⟨h1_⟩
  have n2_ : Aside0 (w20.heap[gb432]? = some (.cells #[.int .i64 a0_0, .int .i64 a0_1] 24 (0, 0))) := ⟨h2_⟩
  have n3_ : Aside0 (w20.heap[gb446]? = some (.cells #[.bool false, .slice none 0 0] 61 (0, 0))) := ⟨h3_⟩
  have n4_ : Aside0 (w.heap.size ≤ gb446) := ⟨h4_⟩
  have n5_ : Aside0 (w.heap.size ≤ gb446) := ⟨h5_⟩
  have n6_ : Aside0 (gb432 ≠ gb446) := ⟨h6_⟩
  have n7_ : Aside0 (gb446 ≠ gb432) := ⟨h7_⟩
  have n8_ : Aside0 (Below w.heap.size w w20) := ⟨h8_⟩
  clear BK432
  clear HB
  clear h0_ h1_ h2_ h3_ h4_ h5_ h6_ h7_ h8_
  have HO437 := n0_
  have HO445 := n1_
  have BK432 := n2_
  have BK446 := n3_
  have GW446 := n4_
  have GE446 := n5_
  have NB432_446 := n6_
  have NB446_432 := n7_
  have HB := n8_
  clear n0_ n1_ n2_ n3_ n4_ n5_ n6_ n7_ n8_
  have hHeld : w20.cell? ⟨gb432, 0, none⟩ = some (.int .i64 a0_0) ∧ w20.cell? ⟨gb432, 1, none⟩ = some (.int .i64 a0_1) := hS_
  obtain ⟨Ao22, co22, eo22⟩ := Kd.R_slice HO445.out
  (first | subst eo22 | (injection eo22 with f1_ f2_ f3_; have f4_ := f1_.symm; have f5_ := f3_.symm; clear f1_ f2_ f3_; subst f4_; subst f5_))
  refine norm_ (a' := ?_) ?_ ?_
  rotate_left
  ·simp only [putAll, Act.put, List.setIfInBounds_toArray, List.set_cons_zero, List.set_cons_succ]
   rfl
  refine one_ (i := 9) (N := none) #[true, true, true, true, true, true, true, true, true, true] rfl rfl (one_of HT_.out (by kernel_rfl)) (by decide) (fun K hK => ?_)
  have hs21 : w20.cell? ⟨gb446, 0, none⟩ = some (.bool false) := ck BK446 0
  have hfs21 := blk_frozen BK446.out 0
  have hns21_0 := NB432_446.out
  have hms21_0 := NB446_432.out
  have hs23 : w20.cell? ⟨gb446, 1, none⟩ = some (.slice none 0 0) := ck BK446 1
  have hfs23 := blk_frozen BK446.out 1
  have hns23_0 := NB432_446.out
  have hms23_0 := NB446_432.out
  refine skip_ (w1 := ?_) (by rfl) rfl ?_ ?_
  rotate_left
  ·go_simp
   rfl
  refine hK.out _ _ ⟨((cell_far (p := ⟨gb446, _, none⟩) NB432_446.out _).trans (((cell_far (p := ⟨gb446, _, none⟩) NB432_446.out _).trans (hHeld.1)))), ((cell_far (p := ⟨gb446, _, none⟩) NB432_446.out _).trans (((cell_far (p := ⟨gb446, _, none⟩) NB432_446.out _).trans (hHeld.2))))⟩ (fun hHeld => ?_)
  clear hK K
  refine done_ (done_of HT_.out (by kernel_rfl)) ?_
  try go_wp2
  have n0_ : Aside0 (Kd.R (Kd.int .u64) 45 ((w20.setCell ⟨gb446, 0, none⟩ (.bool t442)).setCell ⟨gb446, 1, none⟩ (.slice Ao22 t443.length co22)) w.heap.size (fun k_ => some k_ ≠ (.slice Ao22 t443.length co22 : Value).ownBlock) v436 t435) := ⟨by (with_reducible repeat (first | apply Kd.R_alloc | apply Kd.R_drewN | apply Kd.R_drew)); exact Kd.R_mono (Kd.R_far (p := ⟨gb446, 1, none⟩) (Kd.R_far (p := ⟨gb446, 0, none⟩) (Kd.R_types HO437.out BK446.out (by decide)) (fun _ hk => hk.2) (.bool t442)) (fun _ hk => hk.2) (.slice Ao22 t443.length co22)) (fun _ hk => hk.1)⟩
  have n1_ : Aside0 (Kd.R (Kd.int .u64) 45 ((w20.setCell ⟨gb446, 0, none⟩ (.bool t442)).setCell ⟨gb446, 1, none⟩ (.slice Ao22 t443.length co22)) w.heap.size (fun k_ => some k_ ≠ (v436 : Value).ownBlock) (.slice Ao22 t443.length co22) t443) := ⟨by (with_reducible repeat (first | apply Kd.R_alloc | apply Kd.R_drewN | apply Kd.R_drew)); exact Kd.R_mono (Kd.R_far (p := ⟨gb446, 1, none⟩) (Kd.R_far (p := ⟨gb446, 0, none⟩) (Kd.R_types HO445.out BK446.out (by decide)) (fun _ hk => hk.2) (.bool t442)) (fun _ hk => hk.2) (.slice Ao22 t443.length co22)) (fun _ hk => hk.1)⟩
  have n2_ : Aside0 (((w20.setCell ⟨gb446, 0, none⟩ (.bool t442)).setCell ⟨gb446, 1, none⟩ (.slice Ao22 t443.length co22)).heap[gb432]? = some (.cells #[.int .i64 a0_0, .int .i64 a0_1] 24 (0, 0))) := ⟨by (with_reducible repeat (first | refine blk_drewN ?_ _ | refine blk_drew ?_ | refine blk_alloc ?_ _)); refine blk_far ?_ NB432_446.out _; (with_reducible repeat (first | refine blk_drewN ?_ _ | refine blk_drew ?_ | refine blk_alloc ?_ _)); refine blk_far ?_ NB432_446.out _; (with_reducible repeat (first | refine blk_drewN ?_ _ | refine blk_drew ?_ | refine blk_alloc ?_ _)); exact BK432.out⟩
  have n3_ : Aside0 (((w20.setCell ⟨gb446, 0, none⟩ (.bool t442)).setCell ⟨gb446, 1, none⟩ (.slice Ao22 t443.length co22)).heap[gb446]? = some (.cells #[.bool t442, .slice Ao22 t443.length co22] 61 (0, 0))) := ⟨by (with_reducible repeat (first | refine blk_drewN ?_ _ | refine blk_drew ?_ | refine blk_alloc ?_ _)); refine blk_put (cs := #[.bool t442, .slice none 0 0]) ?_ 1 _ rfl; (with_reducible repeat (first | refine blk_drewN ?_ _ | refine blk_drew ?_ | refine blk_alloc ?_ _)); refine blk_put (cs := #[.bool false, .slice none 0 0]) ?_ 0 _ rfl; (with_reducible repeat (first | refine blk_drewN ?_ _ | refine blk_drew ?_ | refine blk_alloc ?_ _)); exact BK446.out⟩
  have n4_ : Aside0 (Below w.heap.size w ((w20.setCell ⟨gb446, 0, none⟩ (.bool t442)).setCell ⟨gb446, 1, none⟩ (.slice Ao22 t443.length co22))) := ⟨bl HB⟩
  (try clear HO437)
  (try clear HO445)
  (try clear BK432)
  (try clear BK446)
  (try clear HB)
  generalize ((w20.setCell ⟨gb446, 0, none⟩ (.bool t442)).setCell ⟨gb446, 1, none⟩ (.slice Ao22 t443.length co22)) = w24 at n0_ n1_ n2_ n3_ n4_ ⊢
  have HO437 := n0_
  have HO445 := n1_
  have BK432 := n2_
  have BK446 := n3_
  have HB := n4_
  clear n0_ n1_ n2_ n3_ n4_
  replace HO437 := Aside0.mk (Kd.R_drew HO437.out)
  replace HO445 := Aside0.mk (Kd.R_drew HO445.out)
  replace BK432 := Aside0.mk (blk_drew BK432.out)
  replace BK446 := Aside0.mk (blk_drew BK446.out)
  replace HB := Aside0.mk (below_drew1 HB.out)
  refine start_ (n := 8) (S := fun w' => w'.cell? ⟨gb446, 0, none⟩ = some (.bool t442) ∧ w'.cell? ⟨gb446, 1, none⟩ = some (.slice Ao22 t443.length co22) ∧ w'.cell? ⟨gb432, 0, none⟩ = some (.int .i64 a0_0) ∧ w'.cell? ⟨gb432, 1, none⟩ = some (.int .i64 a0_1)) (ds := []) #[false, false, false, false, false, false, false, false] (by kernel_rfl) rfl rfl ⟨ck BK446 0, ck BK446 1, ck BK432 0, ck BK432 1⟩ (fun hHeld => ?_); refine with_tabW pochoirref03_Round.tab3 pochoirref03_Round.bits3 (fun HT_ HW_ => ?_)
  generalize w24.drew = w25 at HO437 HO445 BK432 BK446 HB hHeld ⊢
  refine pure_ (i := 3) (N := some 18) (v := ?_) (a' := ?_) #[false, false, false, true, false, false, false, false] rfl rfl (any_of HT_.out (by kernel_rfl)) (fun _ _ _ h => h) (Or.inl ⟨by rfl, ?_⟩) ?_ ?_
  rotate_left
  ·intro w'
   go_simp
   with_reducible rfl
  rotate_left
  ·simp only [Act.put, List.setIfInBounds_toArray, List.set_cons_zero, List.set_cons_succ, i64_w, i32_w]
   rfl
  refine take_ (i := 0) (N := some 15) (v := ?_) (a' := ?_) #[true, false, false, true, false, false, false, false] rfl rfl (take_ofW HT_.out HW_.out (by kernel_rfl)) (fun _ _ _ h => h) (Or.inl ⟨by rfl, ?_⟩) hHeld ?_ ?_
  rotate_left
  ·rintro w' ⟨s0, s1, s2, s3⟩
   go_simp
   with_reducible rfl
  rotate_left
  ·simp only [Act.put, List.setIfInBounds_toArray, List.set_cons_zero, List.set_cons_succ, i64_w, i32_w]
   rfl
  refine take_ (i := 1) (N := some 16) (v := ?_) (a' := ?_) #[true, true, false, true, false, false, false, false] rfl rfl (take_ofW HT_.out HW_.out (by kernel_rfl)) (fun _ _ _ h => h) (Or.inl ⟨by rfl, ?_⟩) hHeld ?_ ?_
  rotate_left
  ·rintro w' ⟨s0, s1, s2, s3⟩
   go_simp
   with_reducible rfl
  rotate_left
  ·simp only [Act.put, List.setIfInBounds_toArray, List.set_cons_zero, List.set_cons_succ, i64_w, i32_w]
   rfl
  refine take_ (i := 4) (N := some 19) (v := ?_) (a' := ?_) #[true, true, false, true, true, false, false, false] rfl rfl (take_ofW HT_.out HW_.out (by kernel_rfl)) (fun _ _ _ h => h) (Or.inl ⟨by rfl, ?_⟩) hHeld ?_ ?_
  rotate_left
  ·rintro w' ⟨s0, s1, s2, s3⟩
   go_simp
   with_reducible rfl
  rotate_left
  ·simp only [Act.put, List.setIfInBounds_toArray, List.set_cons_zero, List.set_cons_succ, i64_w, i32_w]
   rfl
  refine one_ (i := 2) (N := some 17) #[true, true, true, true, true, false, false, false] rfl rfl (one_of HT_.out (by kernel_rfl)) (by decide) (fun K hK => ?_)
  refine goes_ Tryd.func40 (by kernel_rfl) rfl #[.agg #[.bool t442, .slice Ao22 t443.length co22], .agg #[.bool t442, .slice Ao22 t443.length co22]] (by rfl) rfl rfl gm_ ?_
  with_reducible refine (pochoirref02_Add.calls k t442 _ _ t443 t442 _ _ t443 t447 t448 _ ?side1 ?side2 ?side3 ?side4 A6.out).mono ?_
  (case side1 => repeat (first | exact (Kd.R_reads' HO445.out).2.2 | (with_reducible refine Kd.C_alloc ?_ _) | (with_reducible refine Kd.C_drewN ?_ _) | (with_reducible refine Kd.C_drew ?_)))
  (case side2 => exact (Kd.R_reads' HO445.out).2.1)
  (case side3 => repeat (first | exact (Kd.R_reads' HO445.out).2.2 | (with_reducible refine Kd.C_alloc ?_ _) | (with_reducible refine Kd.C_drewN ?_ _) | (with_reducible refine Kd.C_drew ?_)))
  (case side4 => exact (Kd.R_reads' HO445.out).2.1)
  rintro e w26 ⟨v449, rfl, ho0, hb⟩
  refine ⟨_, rfl, ?_⟩
  have HO450 := Aside0.mk (Kd.R_lower (Kd.R_new' (Kd.R_new' ho0 (Kd.R_lt (by (with_reducible repeat (first | apply Kd.R_alloc | apply Kd.R_drewN | apply Kd.R_drew)); exact HO437.out))) (Kd.R_lt (by (with_reducible repeat (first | apply Kd.R_alloc | apply Kd.R_drewN | apply Kd.R_drew)); exact HO445.out))) (below_size (bl HB)))
  replace HO437 := Aside0.mk (Kd.R_elder' (by (with_reducible repeat (first | apply Kd.R_alloc | apply Kd.R_drewN | apply Kd.R_drew)); exact HO437.out) (Kd.R_base ho0) hb)
  replace HO445 := Aside0.mk (Kd.R_elder' (by (with_reducible repeat (first | apply Kd.R_alloc | apply Kd.R_drewN | apply Kd.R_drew)); exact HO445.out) (Kd.R_base ho0) hb)
  replace BK432 := Aside0.mk (blk_below (kb BK432) hb)
  replace BK446 := Aside0.mk (blk_below (kb BK446) hb)
  replace HB := Aside0.mk (below_step (bl HB) hb)
  (try clear hb)
  (try clear hb2)
  (try clear hk)
  (try clear hi)
  (try clear ho0)
  refine hK.out _ _ ⟨ck BK446 0, ck BK446 1, ck BK432 0, ck BK432 1⟩ (fun hHeld => ?_)
  clear hK K
  refine norm_ (a' := ?_) ?_ ?_
  rotate_left
  ·show Act.put _ (some 17) _ = _
   simp only [Act.put, List.setIfInBounds_toArray, List.set_cons_zero, List.set_cons_succ, i64_w, i32_w]
   rfl
  refine one_ (i := 5) (N := some 20) #[true, true, true, true, true, true, false, false] rfl rfl (one_of HT_.out (by kernel_rfl)) (by decide) (fun K hK => ?_)
  refine goes_ Tryd.func39 (by kernel_rfl) rfl #[.int .i64 a0_1] (by rfl) rfl rfl gm_ ?_
  with_reducible refine (pochoirref02_Of.calls k a0_1 t451 t452 _ A7.out).mono ?_
  rintro e w27 ⟨v453, rfl, ho0, hb⟩
  refine ⟨_, rfl, ?_⟩
  have HO454 := Aside0.mk (Kd.R_lower (Kd.R_new' (Kd.R_new' (Kd.R_new' ho0 (Kd.R_lt (by (with_reducible repeat (first | apply Kd.R_alloc | apply Kd.R_drewN | apply Kd.R_drew)); exact HO437.out))) (Kd.R_lt (by (with_reducible repeat (first | apply Kd.R_alloc | apply Kd.R_drewN | apply Kd.R_drew)); exact HO445.out))) (Kd.R_lt (by (with_reducible repeat (first | apply Kd.R_alloc | apply Kd.R_drewN | apply Kd.R_drew)); exact HO450.out))) (below_size (bl HB)))
  replace HO437 := Aside0.mk (Kd.R_elder' (by (with_reducible repeat (first | apply Kd.R_alloc | apply Kd.R_drewN | apply Kd.R_drew)); exact HO437.out) (Kd.R_base ho0) hb)
  replace HO445 := Aside0.mk (Kd.R_elder' (by (with_reducible repeat (first | apply Kd.R_alloc | apply Kd.R_drewN | apply Kd.R_drew)); exact HO445.out) (Kd.R_base ho0) hb)
  replace HO450 := Aside0.mk (Kd.R_elder' (by (with_reducible repeat (first | apply Kd.R_alloc | apply Kd.R_drewN | apply Kd.R_drew)); exact HO450.out) (Kd.R_base ho0) hb)
  replace BK432 := Aside0.mk (blk_below (kb BK432) hb)
  replace BK446 := Aside0.mk (blk_below (kb BK446) hb)
  replace HB := Aside0.mk (below_step (bl HB) hb)
  (try clear hb)
  (try clear hb2)
  (try clear hk)
  (try clear hi)
  (try clear ho0)
  obtain ⟨Ao28, co28, eo28⟩ := Kd.R_slice HO450.out
  (first | subst eo28 | (injection eo28 with f1_ f2_ f3_; have f4_ := f1_.symm; have f5_ := f3_.symm; clear f1_ f2_ f3_; subst f4_; subst f5_))
  obtain ⟨Ao29, co29, eo29⟩ := Kd.R_slice HO454.out
  (first | subst eo29 | (injection eo29 with f1_ f2_ f3_; have f4_ := f1_.symm; have f5_ := f3_.symm; clear f1_ f2_ f3_; subst f4_; subst f5_))
  refine hK.out _ _ ⟨ck BK446 0, ck BK446 1, ck BK432 0, ck BK432 1⟩ (fun hHeld => ?_)
  clear hK K
  refine norm_ (a' := ?_) ?_ ?_
  rotate_left
  ·show Act.put _ (some 20) _ = _
   simp only [Act.put, List.setIfInBounds_toArray, List.set_cons_zero, List.set_cons_succ, i64_w, i32_w]
   rfl
  refine one_ (i := 6) (N := some 21) #[true, true, true, true, true, true, true, false] rfl rfl (one_of HT_.out (by kernel_rfl)) (by decide) (fun K hK => ?_)
  refine goes_ Tryd.func36 (by kernel_rfl) rfl #[.agg #[.bool t447, .slice Ao28 t448.length co28], .agg #[.bool t451, .slice Ao29 t452.length co29]] (by rfl) rfl rfl gm_ ?_
  with_reducible refine (pochoirref02_Cmp.calls k t447 _ _ t448 t451 (fun k_ => some k_ = (.slice Ao29 t452.length co29 : Value).ownBlock) (.slice Ao29 t452.length co29) t452 t455 w _ ?side1 ?side2 ?side3 ?side4 A8.out).mono ?_
  (case side1 => exact bl HB)
  (case side2 => exact Kd.C_kept_own (HO450.out) (fun k_ hk_ hs_ => (hk_.2) hs_))
  (case side3 => exact (Kd.R_reads' HO450.out).2.1)
  (case side4 => exact Kd.R_tight rfl HO454.out)
  rintro e w30 ⟨rfl, hb, hkp⟩
  refine ⟨_, rfl, ?_⟩
  replace BK432 := Aside0.mk (blk_kept (kb BK432) hkp (fun hs_ => (fun e_ => (Kd.R_ne HO454.out BK432.out (by decide)) e_) hs_))
  replace HO437 := Aside0.mk (Kd.R_mono (ok' := fun k_ => some k_ ≠ (.slice Ao22 t443.length co22 : Value).ownBlock ∧ some k_ ≠ (.slice Ao28 t448.length co28 : Value).ownBlock) (Kd.R_keptB (HO437.out) hkp (fun k_ hk_ hs_ => (hk_.2) hs_)) (fun k_ hk_ => ⟨hk_.1.1.1, hk_.1.1.2⟩))
  replace HO445 := Aside0.mk (Kd.R_mono (ok' := fun k_ => some k_ ≠ (v436 : Value).ownBlock ∧ some k_ ≠ (.slice Ao28 t448.length co28 : Value).ownBlock) (Kd.R_keptB (HO445.out) hkp (fun k_ hk_ hs_ => (hk_.2) hs_)) (fun k_ hk_ => ⟨hk_.1.1.1, hk_.1.1.2⟩))
  replace BK446 := Aside0.mk (blk_kept (kb BK446) hkp (fun hs_ => (fun e_ => (Kd.R_ne HO454.out BK446.out (by decide)) e_) hs_))
  replace HO450 := Aside0.mk (Kd.R_mono (ok' := fun k_ => some k_ ≠ (v436 : Value).ownBlock ∧ some k_ ≠ (.slice Ao22 t443.length co22 : Value).ownBlock) (Kd.R_keptB (HO450.out) hkp (fun k_ hk_ hs_ => (hk_.2) hs_)) (fun k_ hk_ => ⟨hk_.1.1.1.2, hk_.1.1.2⟩))
  replace HB := Aside0.mk (hb)
  clear HO454
  (try clear hb)
  (try clear hkp)
  refine hK.out _ _ ⟨ck BK446 0, ck BK446 1, ck BK432 0, ck BK432 1⟩ (fun hHeld => ?_)
  clear hK K
  refine norm_ (a' := ?_) ?_ ?_
  rotate_left
  ·show Act.put _ (some 21) _ = _
   simp only [Act.put, List.setIfInBounds_toArray, List.set_cons_zero, List.set_cons_succ, i64_w, i32_w]
   rfl
  refine pure_ (i := 7) (N := some 22) (v := ?_) (a' := ?_) #[true, true, true, true, true, true, true, true] rfl rfl (any_of HT_.out (by kernel_rfl)) (fun _ _ _ h => h) (Or.inl ⟨by rfl, ?_⟩) ?_ ?_
  rotate_left
  ·intro w'
   go_simp
   with_reducible rfl
  rotate_left
  ·simp only [Act.put, List.setIfInBounds_toArray, List.set_cons_zero, List.set_cons_succ, i64_w, i32_w]
   rfl
  refine done_ (done_of HT_.out (by kernel_rfl)) ?_
  try go_wp2
  go_ret
  exact ⟨by first | rfl | (simp [errW_none, errW_some] <;> rfl) | (simp [*, errW_none, errW_some] <;> rfl), bl HB⟩
 ·rw [if_neg c9] at H
  have c9b0 : decide (0 ≤ t455) = false := decide_eq_false c9
  clear c9
  obtain rfl := Option.some.inj H
  go_enter Tryd.func16, Tryd.ntmps16
  try go_wp2_with (first | ((with_reducible refine gate_dst (N := 1) rfl ?_); refine box_event ?hg (N := 1) ?hd (cs := #[.int .i64 a0_0, .int .i64 a0_1]) (t := 24) ?hr ?_; (case hd => rfl); (case hg => rfl); (case hr => exact gs_); intro gb432 hg w31 hbox hb; have BK432 := Aside0.mk (hbox); have GW432 := Aside0.mk ((by rw [hg]; exact (below_size (bl HB)) : w.heap.size ≤ gb432)); have GE432 := Aside0.mk ((by rw [hg]; exact (below_size (bl HB)) : w.heap.size ≤ gb432)); replace HB := Aside0.mk (below_step (bl HB) hb); clear hb hbox hg; have hcz32_0 := ck BK432 0; have hcz32_1 := ck BK432 1; have hfz32_0 := blk_frozen BK432.out 0; have hfz32_1 := blk_frozen BK432.out 1) | ((with_reducible refine gate_callee (f := 15) rfl ?_); refine goesL_ (some 6) rfl rfl Tryd.func15 (by kernel_rfl) rfl #[.agg #[.int .i64 a0_0, .int .i64 a0_1]] rfl gm_ ?_; (with_reducible refine (pochoirref03_Floor.calls a0_0 a0_1 t433 _ A2.out).mono ?_); rintro e w33 ⟨rfl, hb⟩; refine ⟨_, rfl, ?_⟩; replace BK432 := Aside0.mk (blk_below (kb BK432) hb); replace HB := Aside0.mk (below_step (bl HB) hb); (try clear hb); (try clear hb2); (try clear hk); (try clear hi)))
  replace BK432 := Aside0.mk (blk_drew BK432.out)
  replace HB := Aside0.mk (below_drew1 HB.out)
  refine start_ (n := 10) (S := fun w' => w'.cell? ⟨gb432, 0, none⟩ = some (.int .i64 a0_0) ∧ w'.cell? ⟨gb432, 1, none⟩ = some (.int .i64 a0_1)) (ds := []) #[false, false, false, false, false, false, false, false, false, false] (by kernel_rfl) rfl rfl ⟨ck BK432 0, ck BK432 1⟩ (fun hHeld => ?_); refine with_tabW pochoirref03_Round.tab2 pochoirref03_Round.bits2 (fun HT_ HW_ => ?_)
  generalize w33.drew = w34 at BK432 HB hHeld ⊢
  refine pure_ (i := 0) (N := some 7) (v := ?_) (a' := ?_) #[true, false, false, false, false, false, false, false, false, false] rfl rfl (any_of HT_.out (by kernel_rfl)) (fun _ _ _ h => h) (Or.inl ⟨by rfl, ?_⟩) ?_ ?_
  rotate_left
  ·intro w'
   go_simp
   with_reducible rfl
  rotate_left
  ·simp only [Act.put, List.setIfInBounds_toArray, List.set_cons_zero, List.set_cons_succ, i64_w, i32_w]
   rfl
  refine pure_ (i := 3) (N := some 10) (v := ?_) (a' := ?_) #[true, false, false, true, false, false, false, false, false, false] rfl rfl (any_of HT_.out (by kernel_rfl)) (fun _ _ _ h => h) (Or.inl ⟨by rfl, ?_⟩) ?_ ?_
  rotate_left
  ·intro w'
   go_simp
   with_reducible rfl
  rotate_left
  ·simp only [Act.put, List.setIfInBounds_toArray, List.set_cons_zero, List.set_cons_succ, i64_w, i32_w]
   rfl
  refine pure_ (i := 4) (N := some 11) (v := ?_) (a' := ?_) #[true, false, false, true, true, false, false, false, false, false] rfl rfl (any_of HT_.out (by kernel_rfl)) (fun _ _ _ h => h) (Or.inl ⟨by rfl, ?_⟩) ?_ ?_
  rotate_left
  ·intro w'
   go_simp
   with_reducible rfl
  rotate_left
  ·simp only [Act.put, List.setIfInBounds_toArray, List.set_cons_zero, List.set_cons_succ, i64_w, i32_w]
   rfl
  refine take_ (i := 1) (N := some 8) (v := ?_) (a' := ?_) #[true, true, false, true, true, false, false, false, false, false] rfl rfl (take_ofW HT_.out HW_.out (by kernel_rfl)) (fun _ _ _ h => h) (Or.inl ⟨by rfl, ?_⟩) hHeld ?_ ?_
  rotate_left
  ·rintro w' ⟨s0, s1⟩
   go_simp
   with_reducible rfl
  rotate_left
  ·simp only [Act.put, List.setIfInBounds_toArray, List.set_cons_zero, List.set_cons_succ, i64_w, i32_w]
   rfl
  refine take_ (i := 5) (N := some 12) (v := ?_) (a' := ?_) #[true, true, false, true, true, true, false, false, false, false] rfl rfl (take_ofW HT_.out HW_.out (by kernel_rfl)) (fun _ _ _ h => h) (Or.inl ⟨by rfl, ?_⟩) hHeld ?_ ?_
  rotate_left
  ·rintro w' ⟨s0, s1⟩
   go_simp
   with_reducible rfl
  rotate_left
  ·simp only [Act.put, List.setIfInBounds_toArray, List.set_cons_zero, List.set_cons_succ, i64_w, i32_w]
   rfl
  refine join_ (σ := Value × Value × Value × Nat) 1 #[true, true, true, true, true, true, true, true, true, false] (fun s_ => [(9, .agg #[.bool t434, s_.1]), (13, .agg #[.bool t438, s_.2.1]), (14, .agg #[.bool t442, s_.2.2.1]), (4, .pointer (some ⟨s_.2.2.2, 0, none⟩))]) (fun s_ w' => (w'.cell? ⟨gb432, 0, none⟩ = some (.int .i64 a0_0) ∧ w'.cell? ⟨gb432, 1, none⟩ = some (.int .i64 a0_1)) ∧ (Kd.R (Kd.int .u64) 45 w' w.heap.size (fun k_ => some k_ ≠ (s_.2.2.1 : Value).ownBlock) s_.1 t435) ∧ (Kd.R (Kd.int .u64) 45 w' w.heap.size (fun k_ => some k_ ≠ (s_.1 : Value).ownBlock) s_.2.2.1 t443) ∧ (w'.heap[gb432]? = some (.cells #[.int .i64 a0_0, .int .i64 a0_1] 24 (0, 0))) ∧ (w'.heap[s_.2.2.2]? = some (.cells #[.bool false, .slice none 0 0] 61 (0, 0))) ∧ (w.heap.size ≤ s_.2.2.2) ∧ (w.heap.size ≤ s_.2.2.2) ∧ (gb432 ≠ s_.2.2.2) ∧ (s_.2.2.2 ≠ gb432) ∧ (Below w.heap.size w w')) ?_ ?_
  rotate_left
  ·intro hCont
   refine two_ (i := 2) (j := 8) (Ni := some 9) (Nj := some 4) #[true, true, true, true, true, true, false, false, false, false] #[true, true, false, true, true, true, false, false, true, false] rfl rfl rfl rfl (two_of HT_.out (by kernel_rfl)) (by decide) (by decide) (fun K hK => ?_) (fun K hK => ?_)
   ·skip
    refine goes_ Tryd.func39 (by kernel_rfl) rfl #[.int .i64 a0_0] (by rfl) rfl rfl gm_ ?_
    with_reducible refine (pochoirref02_Of.calls k a0_0 t434 t435 _ A3.out).mono ?_
    rintro e w35 ⟨v436, rfl, ho0, hb⟩
    refine ⟨_, rfl, ?_⟩
    have HO437 := Aside0.mk (Kd.R_lower ho0 (below_size (bl HB)))
    replace BK432 := Aside0.mk (blk_below (kb BK432) hb)
    replace HB := Aside0.mk (below_step (bl HB) hb)
    (try clear hb)
    (try clear hb2)
    (try clear hk)
    (try clear hi)
    (try clear ho0)
    refine hK.out _ _ ⟨ck BK432 0, ck BK432 1⟩ (fun hHeld => ?_)
    clear hK K
    refine norm_ (a' := ?_) ?_ ?_
    rotate_left
    ·show Act.put _ (some 9) _ = _
     simp only [Act.put, List.setIfInBounds_toArray, List.set_cons_zero, List.set_cons_succ, i64_w, i32_w]
     rfl
    refine two_ (i := 6) (j := 8) (Ni := some 13) (Nj := some 4) #[true, true, true, true, true, true, true, false, false, false] #[true, true, true, true, true, true, false, false, true, false] rfl rfl rfl rfl (two_of HT_.out (by kernel_rfl)) (by decide) (by decide) (fun K hK => ?_) (fun K hK => ?_)
    ·skip
     refine goes_ Tryd.func37 (by kernel_rfl) rfl #[.int .i64 t433, .int .i64 a0_1] (by rfl) rfl rfl gm_ ?_
     with_reducible refine (pochoirref03_times.calls k t433 a0_1 t438 t439 _ A4.out).mono ?_
     rintro e w36 ⟨v440, rfl, ho0, hb⟩
     refine ⟨_, rfl, ?_⟩
     have HO441 := Aside0.mk (Kd.R_lower (Kd.R_new' ho0 (Kd.R_lt (by (with_reducible repeat (first | apply Kd.R_alloc | apply Kd.R_drewN | apply Kd.R_drew)); exact HO437.out))) (below_size (bl HB)))
     replace HO437 := Aside0.mk (Kd.R_elder' (by (with_reducible repeat (first | apply Kd.R_alloc | apply Kd.R_drewN | apply Kd.R_drew)); exact HO437.out) (Kd.R_base ho0) hb)
     replace BK432 := Aside0.mk (blk_below (kb BK432) hb)
     replace HB := Aside0.mk (below_step (bl HB) hb)
     (try clear hb)
     (try clear hb2)
     (try clear hk)
     (try clear hi)
     (try clear ho0)
     obtain ⟨Ao37, co37, eo37⟩ := Kd.R_slice HO437.out
     (first | subst eo37 | (injection eo37 with f1_ f2_ f3_; have f4_ := f1_.symm; have f5_ := f3_.symm; clear f1_ f2_ f3_; subst f4_; subst f5_))
     obtain ⟨Ao38, co38, eo38⟩ := Kd.R_slice HO441.out
     (first | subst eo38 | (injection eo38 with f1_ f2_ f3_; have f4_ := f1_.symm; have f5_ := f3_.symm; clear f1_ f2_ f3_; subst f4_; subst f5_))
     refine hK.out _ _ ⟨ck BK432 0, ck BK432 1⟩ (fun hHeld => ?_)
     clear hK K
     refine norm_ (a' := ?_) ?_ ?_
     rotate_left
     ·show Act.put _ (some 13) _ = _
      simp only [Act.put, List.setIfInBounds_toArray, List.set_cons_zero, List.set_cons_succ, i64_w, i32_w]
      rfl
     refine two_ (i := 7) (j := 8) (Ni := some 14) (Nj := some 4) #[true, true, true, true, true, true, true, true, false, false] #[true, true, true, true, true, true, true, false, true, false] rfl rfl rfl rfl (two_of HT_.out (by kernel_rfl)) (by decide) (by decide) (fun K hK => ?_) (fun K hK => ?_)
     ·skip
      refine goes_ Tryd.func38 (by kernel_rfl) rfl #[.agg #[.bool t434, .slice Ao37 t435.length co37], .agg #[.bool t438, .slice Ao38 t439.length co38]] (by rfl) rfl rfl gm_ ?_
      with_reducible refine (pochoirref02_Sub.calls k t434 _ _ t435 t438 (fun k_ => some k_ = (.slice Ao38 t439.length co38 : Value).ownBlock) (.slice Ao38 t439.length co38) t439 t442 t443 w _ ?side1 ?side2 ?side3 ?side4 A5.out).mono ?_
      (case side1 => exact bl HB)
      (case side2 => exact Kd.C_kept_own (HO437.out) (fun k_ hk_ hs_ => (hk_.2) hs_))
      (case side3 => exact (Kd.R_reads' HO437.out).2.1)
      (case side4 => exact Kd.R_tight rfl HO441.out)
      rintro e w39 ⟨v444, rfl, ho0, hb, hkp⟩
      refine ⟨_, rfl, ?_⟩
      replace BK432 := Aside0.mk (blk_kept (kb BK432) hkp (fun hs_ => (fun e_ => (Kd.R_ne HO441.out BK432.out (by decide)) e_) hs_))
      have HO445 := Aside0.mk (Kd.R_mono (ok' := fun k_ => some k_ ≠ (.slice Ao37 t435.length co37 : Value).ownBlock) ho0 (fun k_ hk_ => Or.elim hk_ (fun hs_ => fun e_ => (((HO437.out).1 k_ e_.symm).2) hs_) (fun hn_ => (Kd.fresh' (Kd.R_lt (by (with_reducible repeat (first | apply Kd.R_alloc | apply Kd.R_drewN | apply Kd.R_drew)); exact HO437.out)) k_ hn_))))
      replace HO437 := Aside0.mk (Kd.R_mono (ok' := fun k_ => some k_ ≠ (v444 : Value).ownBlock) (Kd.R_keptB (HO437.out) hkp (fun k_ hk_ hs_ => (hk_.2) hs_)) (fun k_ hk_ => fun e_ => Or.elim (ho0.1 k_ e_.symm) (fun hs_ => hk_.2.1 hs_) (fun hn_ => Nat.not_le.2 hk_.2.2 hn_)))
      replace HB := Aside0.mk (hb)
      clear HO441
      (try clear hb)
      (try clear hkp)
      (try clear ho0)
      refine hK.out _ _ ⟨ck BK432 0, ck BK432 1⟩ (fun hHeld => ?_)
      clear hK K
      refine norm_ (a' := ?_) ?_ ?_
      rotate_left
      ·show Act.put _ (some 14) _ = _
       simp only [Act.put, List.setIfInBounds_toArray, List.set_cons_zero, List.set_cons_succ, i64_w, i32_w]
       rfl
      refine one_ (i := 8) (N := some 4) #[true, true, true, true, true, true, true, true, true, false] rfl rfl (one_of HT_.out (by kernel_rfl)) (by decide) (fun K hK => ?_)
      refine box_step ?hg (N := 4) ?hd (cs := #[.bool false, .slice none 0 0]) (t := 61) ?hr ?_; (case hd => rfl); (case hg => rfl); (case hr => exact gs_)
      intro gb446 hg w40 hbox hb
      replace HO437 := Aside0.mk (Kd.R_below (by (with_reducible repeat (first | apply Kd.R_alloc | apply Kd.R_drewN | apply Kd.R_drew)); exact HO437.out) hb)
      replace HO445 := Aside0.mk (Kd.R_below (by (with_reducible repeat (first | apply Kd.R_alloc | apply Kd.R_drewN | apply Kd.R_drew)); exact HO445.out) hb)
      have BK446 := Aside0.mk (hbox)
      have GW446 := Aside0.mk ((by rw [hg]; exact (below_size (bl HB)) : w.heap.size ≤ gb446))
      have GE446 := Aside0.mk ((by rw [hg]; exact (below_size (bl HB)) : w.heap.size ≤ gb446))
      replace HB := Aside0.mk (below_step (bl HB) hb)
      have NB432_446 := Aside0.mk ((by rw [hg]; exact Nat.ne_of_lt (blk_lt (kb BK432)) : gb432 ≠ gb446))
      have NB446_432 := Aside0.mk ((by rw [hg]; exact Nat.ne_of_gt (blk_lt (kb BK432)) : gb446 ≠ gb432))
      replace BK432 := Aside0.mk (blk_below (kb BK432) hb)
      clear hb hbox hg
      refine hK.out _ _ ⟨ck BK432 0, ck BK432 1⟩ (fun hHeld => ?_)
      clear hK K
      refine norm_ (a' := ?_) ?_ ?_
      rotate_left
      ·show Act.put _ (some 4) _ = _
       simp only [Act.put, List.setIfInBounds_toArray, List.set_cons_zero, List.set_cons_succ, i64_w, i32_w]
       rfl
      exact norm_ (by simp only [putAll, Act.put, List.setIfInBounds_toArray, List.set_cons_zero, List.set_cons_succ]) (hCont (.slice Ao37 t435.length co37, .slice Ao38 t439.length co38, v444, gb446) _ ⟨hHeld, (by (with_reducible repeat (first | apply Kd.R_alloc | apply Kd.R_drewN | apply Kd.R_drew)); exact HO437.out), (by (with_reducible repeat (first | apply Kd.R_alloc | apply Kd.R_drewN | apply Kd.R_drew)); exact HO445.out), (kb BK432), (kb BK446), GW446.out, GE446.out, NB432_446.out, NB446_432.out, (bl HB)⟩)
     ·skip
      refine box_step ?hg (N := 4) ?hd (cs := #[.bool false, .slice none 0 0]) (t := 61) ?hr ?_; (case hd => rfl); (case hg => rfl); (case hr => exact gs_)
      intro gb446 hg w37 hbox hb
      replace HO437 := Aside0.mk (Kd.R_below (by (with_reducible repeat (first | apply Kd.R_alloc | apply Kd.R_drewN | apply Kd.R_drew)); exact HO437.out) hb)
      replace HO441 := Aside0.mk (Kd.R_below (by (with_reducible repeat (first | apply Kd.R_alloc | apply Kd.R_drewN | apply Kd.R_drew)); exact HO441.out) hb)
      have BK446 := Aside0.mk (hbox)
      have GW446 := Aside0.mk ((by rw [hg]; exact (below_size (bl HB)) : w.heap.size ≤ gb446))
      have GE446 := Aside0.mk ((by rw [hg]; exact (below_size (bl HB)) : w.heap.size ≤ gb446))
      replace HB := Aside0.mk (below_step (bl HB) hb)
      have NB432_446 := Aside0.mk ((by rw [hg]; exact Nat.ne_of_lt (blk_lt (kb BK432)) : gb432 ≠ gb446))
      have NB446_432 := Aside0.mk ((by rw [hg]; exact Nat.ne_of_gt (blk_lt (kb BK432)) : gb446 ≠ gb432))
      replace BK432 := Aside0.mk (blk_below (kb BK432) hb)
      clear hb hbox hg
      obtain ⟨Ao38, co38, eo38⟩ := Kd.R_slice HO437.out
      (first | subst eo38 | (injection eo38 with f1_ f2_ f3_; have f4_ := f1_.symm; have f5_ := f3_.symm; clear f1_ f2_ f3_; subst f4_; subst f5_))
      obtain ⟨Ao39, co39, eo39⟩ := Kd.R_slice HO441.out
      (first | subst eo39 | (injection eo39 with f1_ f2_ f3_; have f4_ := f1_.symm; have f5_ := f3_.symm; clear f1_ f2_ f3_; subst f4_; subst f5_))
      refine hK.out _ _ ⟨ck BK432 0, ck BK432 1⟩ (fun hHeld => ?_)
      clear hK K
      refine norm_ (a' := ?_) ?_ ?_
      rotate_left
      ·show Act.put _ (some 4) _ = _
       simp only [Act.put, List.setIfInBounds_toArray, List.set_cons_zero, List.set_cons_succ, i64_w, i32_w]
       rfl
      refine one_ (i := 7) (N := some 14) #[true, true, true, true, true, true, true, true, true, false] rfl rfl (one_of HT_.out (by kernel_rfl)) (by decide) (fun K hK => ?_)
      refine goes_ Tryd.func38 (by kernel_rfl) rfl #[.agg #[.bool t434, .slice Ao38 t435.length co38], .agg #[.bool t438, .slice Ao39 t439.length co39]] (by rfl) rfl rfl gm_ ?_
      with_reducible refine (pochoirref02_Sub.calls k t434 _ _ t435 t438 (fun k_ => some k_ = (.slice Ao39 t439.length co39 : Value).ownBlock) (.slice Ao39 t439.length co39) t439 t442 t443 w _ ?side1 ?side2 ?side3 ?side4 A5.out).mono ?_
      (case side1 => exact bl HB)
      (case side2 => exact Kd.C_kept_own (HO437.out) (fun k_ hk_ hs_ => (hk_.2) hs_))
      (case side3 => exact (Kd.R_reads' HO437.out).2.1)
      (case side4 => exact Kd.R_tight rfl HO441.out)
      rintro e w40 ⟨v444, rfl, ho0, hb, hkp⟩
      refine ⟨_, rfl, ?_⟩
      replace BK432 := Aside0.mk (blk_kept (kb BK432) hkp (fun hs_ => (fun e_ => (Kd.R_ne HO441.out BK432.out (by decide)) e_) hs_))
      replace BK446 := Aside0.mk (blk_kept (kb BK446) hkp (fun hs_ => (fun e_ => (Kd.R_ne HO441.out BK446.out (by decide)) e_) hs_))
      have HO445 := Aside0.mk (Kd.R_mono (ok' := fun k_ => some k_ ≠ (.slice Ao38 t435.length co38 : Value).ownBlock) ho0 (fun k_ hk_ => Or.elim hk_ (fun hs_ => fun e_ => (((HO437.out).1 k_ e_.symm).2) hs_) (fun hn_ => (Kd.fresh' (Kd.R_lt (by (with_reducible repeat (first | apply Kd.R_alloc | apply Kd.R_drewN | apply Kd.R_drew)); exact HO437.out)) k_ hn_))))
      replace HO437 := Aside0.mk (Kd.R_mono (ok' := fun k_ => some k_ ≠ (v444 : Value).ownBlock) (Kd.R_keptB (HO437.out) hkp (fun k_ hk_ hs_ => (hk_.2) hs_)) (fun k_ hk_ => fun e_ => Or.elim (ho0.1 k_ e_.symm) (fun hs_ => hk_.2.1 hs_) (fun hn_ => Nat.not_le.2 hk_.2.2 hn_)))
      replace HB := Aside0.mk (hb)
      clear HO441
      (try clear hb)
      (try clear hkp)
      (try clear ho0)
      refine hK.out _ _ ⟨ck BK432 0, ck BK432 1⟩ (fun hHeld => ?_)
      clear hK K
      refine norm_ (a' := ?_) ?_ ?_
      rotate_left
      ·show Act.put _ (some 14) _ = _
       simp only [Act.put, List.setIfInBounds_toArray, List.set_cons_zero, List.set_cons_succ, i64_w, i32_w]
       rfl
      exact norm_ (by simp only [putAll, Act.put, List.setIfInBounds_toArray, List.set_cons_zero, List.set_cons_succ]) (hCont (.slice Ao38 t435.length co38, .slice Ao39 t439.length co39, v444, gb446) _ ⟨hHeld, (by (with_reducible repeat (first | apply Kd.R_alloc | apply Kd.R_drewN | apply Kd.R_drew)); exact HO437.out), (by (with_reducible repeat (first | apply Kd.R_alloc | apply Kd.R_drewN | apply Kd.R_drew)); exact HO445.out), (kb BK432), (kb BK446), GW446.out, GE446.out, NB432_446.out, NB446_432.out, (bl HB)⟩)
    ·skip
     refine box_step ?hg (N := 4) ?hd (cs := #[.bool false, .slice none 0 0]) (t := 61) ?hr ?_; (case hd => rfl); (case hg => rfl); (case hr => exact gs_)
     intro gb446 hg w36 hbox hb
     replace HO437 := Aside0.mk (Kd.R_below (by (with_reducible repeat (first | apply Kd.R_alloc | apply Kd.R_drewN | apply Kd.R_drew)); exact HO437.out) hb)
     have BK446 := Aside0.mk (hbox)
     have GW446 := Aside0.mk ((by rw [hg]; exact (below_size (bl HB)) : w.heap.size ≤ gb446))
     have GE446 := Aside0.mk ((by rw [hg]; exact (below_size (bl HB)) : w.heap.size ≤ gb446))
     replace HB := Aside0.mk (below_step (bl HB) hb)
     have NB432_446 := Aside0.mk ((by rw [hg]; exact Nat.ne_of_lt (blk_lt (kb BK432)) : gb432 ≠ gb446))
     have NB446_432 := Aside0.mk ((by rw [hg]; exact Nat.ne_of_gt (blk_lt (kb BK432)) : gb446 ≠ gb432))
     replace BK432 := Aside0.mk (blk_below (kb BK432) hb)
     clear hb hbox hg
     refine hK.out _ _ ⟨ck BK432 0, ck BK432 1⟩ (fun hHeld => ?_)
     clear hK K
     refine norm_ (a' := ?_) ?_ ?_
     rotate_left
     ·show Act.put _ (some 4) _ = _
      simp only [Act.put, List.setIfInBounds_toArray, List.set_cons_zero, List.set_cons_succ, i64_w, i32_w]
      rfl
     refine one_ (i := 6) (N := some 13) #[true, true, true, true, true, true, true, false, true, false] rfl rfl (one_of HT_.out (by kernel_rfl)) (by decide) (fun K hK => ?_)
     refine goes_ Tryd.func37 (by kernel_rfl) rfl #[.int .i64 t433, .int .i64 a0_1] (by rfl) rfl rfl gm_ ?_
     with_reducible refine (pochoirref03_times.calls k t433 a0_1 t438 t439 _ A4.out).mono ?_
     rintro e w37 ⟨v440, rfl, ho0, hb⟩
     refine ⟨_, rfl, ?_⟩
     have HO441 := Aside0.mk (Kd.R_lower (Kd.R_new' ho0 (Kd.R_lt (by (with_reducible repeat (first | apply Kd.R_alloc | apply Kd.R_drewN | apply Kd.R_drew)); exact HO437.out))) (below_size (bl HB)))
     replace HO437 := Aside0.mk (Kd.R_elder' (by (with_reducible repeat (first | apply Kd.R_alloc | apply Kd.R_drewN | apply Kd.R_drew)); exact HO437.out) (Kd.R_base ho0) hb)
     replace BK432 := Aside0.mk (blk_below (kb BK432) hb)
     replace BK446 := Aside0.mk (blk_below (kb BK446) hb)
     replace HB := Aside0.mk (below_step (bl HB) hb)
     (try clear hb)
     (try clear hb2)
     (try clear hk)
     (try clear hi)
     (try clear ho0)
     obtain ⟨Ao38, co38, eo38⟩ := Kd.R_slice HO437.out
     (first | subst eo38 | (injection eo38 with f1_ f2_ f3_; have f4_ := f1_.symm; have f5_ := f3_.symm; clear f1_ f2_ f3_; subst f4_; subst f5_))
     obtain ⟨Ao39, co39, eo39⟩ := Kd.R_slice HO441.out
     (first | subst eo39 | (injection eo39 with f1_ f2_ f3_; have f4_ := f1_.symm; have f5_ := f3_.symm; clear f1_ f2_ f3_; subst f4_; subst f5_))
     refine hK.out _ _ ⟨ck BK432 0, ck BK432 1⟩ (fun hHeld => ?_)
     clear hK K
     refine norm_ (a' := ?_) ?_ ?_
     rotate_left
     ·show Act.put _ (some 13) _ = _
      simp only [Act.put, List.setIfInBounds_toArray, List.set_cons_zero, List.set_cons_succ, i64_w, i32_w]
      rfl
     refine one_ (i := 7) (N := some 14) #[true, true, true, true, true, true, true, true, true, false] rfl rfl (one_of HT_.out (by kernel_rfl)) (by decide) (fun K hK => ?_)
     refine goes_ Tryd.func38 (by kernel_rfl) rfl #[.agg #[.bool t434, .slice Ao38 t435.length co38], .agg #[.bool t438, .slice Ao39 t439.length co39]] (by rfl) rfl rfl gm_ ?_
     with_reducible refine (pochoirref02_Sub.calls k t434 _ _ t435 t438 (fun k_ => some k_ = (.slice Ao39 t439.length co39 : Value).ownBlock) (.slice Ao39 t439.length co39) t439 t442 t443 w _ ?side1 ?side2 ?side3 ?side4 A5.out).mono ?_
     (case side1 => exact bl HB)
     (case side2 => exact Kd.C_kept_own (HO437.out) (fun k_ hk_ hs_ => (hk_.2) hs_))
     (case side3 => exact (Kd.R_reads' HO437.out).2.1)
     (case side4 => exact Kd.R_tight rfl HO441.out)
     rintro e w40 ⟨v444, rfl, ho0, hb, hkp⟩
     refine ⟨_, rfl, ?_⟩
     replace BK432 := Aside0.mk (blk_kept (kb BK432) hkp (fun hs_ => (fun e_ => (Kd.R_ne HO441.out BK432.out (by decide)) e_) hs_))
     replace BK446 := Aside0.mk (blk_kept (kb BK446) hkp (fun hs_ => (fun e_ => (Kd.R_ne HO441.out BK446.out (by decide)) e_) hs_))
     have HO445 := Aside0.mk (Kd.R_mono (ok' := fun k_ => some k_ ≠ (.slice Ao38 t435.length co38 : Value).ownBlock) ho0 (fun k_ hk_ => Or.elim hk_ (fun hs_ => fun e_ => (((HO437.out).1 k_ e_.symm).2) hs_) (fun hn_ => (Kd.fresh' (Kd.R_lt (by (with_reducible repeat (first | apply Kd.R_alloc | apply Kd.R_drewN | apply Kd.R_drew)); exact HO437.out)) k_ hn_))))
     replace HO437 := Aside0.mk (Kd.R_mono (ok' := fun k_ => some k_ ≠ (v444 : Value).ownBlock) (Kd.R_keptB (HO437.out) hkp (fun k_ hk_ hs_ => (hk_.2) hs_)) (fun k_ hk_ => fun e_ => Or.elim (ho0.1 k_ e_.symm) (fun hs_ => hk_.2.1 hs_) (fun hn_ => Nat.not_le.2 hk_.2.2 hn_)))
     replace HB := Aside0.mk (hb)
     clear HO441
     (try clear hb)
     (try clear hkp)
     (try clear ho0)
     refine hK.out _ _ ⟨ck BK432 0, ck BK432 1⟩ (fun hHeld => ?_)
     clear hK K
     refine norm_ (a' := ?_) ?_ ?_
     rotate_left
     ·show Act.put _ (some 14) _ = _
      simp only [Act.put, List.setIfInBounds_toArray, List.set_cons_zero, List.set_cons_succ, i64_w, i32_w]
      rfl
     exact norm_ (by simp only [putAll, Act.put, List.setIfInBounds_toArray, List.set_cons_zero, List.set_cons_succ]) (hCont (.slice Ao38 t435.length co38, .slice Ao39 t439.length co39, v444, gb446) _ ⟨hHeld, (by (with_reducible repeat (first | apply Kd.R_alloc | apply Kd.R_drewN | apply Kd.R_drew)); exact HO437.out), (by (with_reducible repeat (first | apply Kd.R_alloc | apply Kd.R_drewN | apply Kd.R_drew)); exact HO445.out), (kb BK432), (kb BK446), GW446.out, GE446.out, NB432_446.out, NB446_432.out, (bl HB)⟩)
   ·skip
    refine box_step ?hg (N := 4) ?hd (cs := #[.bool false, .slice none 0 0]) (t := 61) ?hr ?_; (case hd => rfl); (case hg => rfl); (case hr => exact gs_)
    intro gb446 hg w35 hbox hb
    have BK446 := Aside0.mk (hbox)
    have GW446 := Aside0.mk ((by rw [hg]; exact (below_size (bl HB)) : w.heap.size ≤ gb446))
    have GE446 := Aside0.mk ((by rw [hg]; exact (below_size (bl HB)) : w.heap.size ≤ gb446))
    replace HB := Aside0.mk (below_step (bl HB) hb)
    have NB432_446 := Aside0.mk ((by rw [hg]; exact Nat.ne_of_lt (blk_lt (kb BK432)) : gb432 ≠ gb446))
    have NB446_432 := Aside0.mk ((by rw [hg]; exact Nat.ne_of_gt (blk_lt (kb BK432)) : gb446 ≠ gb432))
    replace BK432 := Aside0.mk (blk_below (kb BK432) hb)
    clear hb hbox hg
    refine hK.out _ _ ⟨ck BK432 0, ck BK432 1⟩ (fun hHeld => ?_)
    clear hK K
    refine norm_ (a' := ?_) ?_ ?_
    rotate_left
    ·show Act.put _ (some 4) _ = _
     simp only [Act.put, List.setIfInBounds_toArray, List.set_cons_zero, List.set_cons_succ, i64_w, i32_w]
     rfl
    refine one_ (i := 2) (N := some 9) #[true, true, true, true, true, true, false, false, true, false] rfl rfl (one_of HT_.out (by kernel_rfl)) (by decide) (fun K hK => ?_)
    refine goes_ Tryd.func39 (by kernel_rfl) rfl #[.int .i64 a0_0] (by rfl) rfl rfl gm_ ?_
    with_reducible refine (pochoirref02_Of.calls k a0_0 t434 t435 _ A3.out).mono ?_
    rintro e w36 ⟨v436, rfl, ho0, hb⟩
    refine ⟨_, rfl, ?_⟩
    have HO437 := Aside0.mk (Kd.R_lower ho0 (below_size (bl HB)))
    replace BK432 := Aside0.mk (blk_below (kb BK432) hb)
    replace BK446 := Aside0.mk (blk_below (kb BK446) hb)
    replace HB := Aside0.mk (below_step (bl HB) hb)
    (try clear hb)
    (try clear hb2)
    (try clear hk)
    (try clear hi)
    (try clear ho0)
    refine hK.out _ _ ⟨ck BK432 0, ck BK432 1⟩ (fun hHeld => ?_)
    clear hK K
    refine norm_ (a' := ?_) ?_ ?_
    rotate_left
    ·show Act.put _ (some 9) _ = _
     simp only [Act.put, List.setIfInBounds_toArray, List.set_cons_zero, List.set_cons_succ, i64_w, i32_w]
     rfl
    refine one_ (i := 6) (N := some 13) #[true, true, true, true, true, true, true, false, true, false] rfl rfl (one_of HT_.out (by kernel_rfl)) (by decide) (fun K hK => ?_)
    refine goes_ Tryd.func37 (by kernel_rfl) rfl #[.int .i64 t433, .int .i64 a0_1] (by rfl) rfl rfl gm_ ?_
    with_reducible refine (pochoirref03_times.calls k t433 a0_1 t438 t439 _ A4.out).mono ?_
    rintro e w37 ⟨v440, rfl, ho0, hb⟩
    refine ⟨_, rfl, ?_⟩
    have HO441 := Aside0.mk (Kd.R_lower (Kd.R_new' ho0 (Kd.R_lt (by (with_reducible repeat (first | apply Kd.R_alloc | apply Kd.R_drewN | apply Kd.R_drew)); exact HO437.out))) (below_size (bl HB)))
    replace HO437 := Aside0.mk (Kd.R_elder' (by (with_reducible repeat (first | apply Kd.R_alloc | apply Kd.R_drewN | apply Kd.R_drew)); exact HO437.out) (Kd.R_base ho0) hb)
    replace BK432 := Aside0.mk (blk_below (kb BK432) hb)
    replace BK446 := Aside0.mk (blk_below (kb BK446) hb)
    replace HB := Aside0.mk (below_step (bl HB) hb)
    (try clear hb)
    (try clear hb2)
    (try clear hk)
    (try clear hi)
    (try clear ho0)
    obtain ⟨Ao38, co38, eo38⟩ := Kd.R_slice HO437.out
    (first | subst eo38 | (injection eo38 with f1_ f2_ f3_; have f4_ := f1_.symm; have f5_ := f3_.symm; clear f1_ f2_ f3_; subst f4_; subst f5_))
    obtain ⟨Ao39, co39, eo39⟩ := Kd.R_slice HO441.out
    (first | subst eo39 | (injection eo39 with f1_ f2_ f3_; have f4_ := f1_.symm; have f5_ := f3_.symm; clear f1_ f2_ f3_; subst f4_; subst f5_))
    refine hK.out _ _ ⟨ck BK432 0, ck BK432 1⟩ (fun hHeld => ?_)
    clear hK K
    refine norm_ (a' := ?_) ?_ ?_
    rotate_left
    ·show Act.put _ (some 13) _ = _
     simp only [Act.put, List.setIfInBounds_toArray, List.set_cons_zero, List.set_cons_succ, i64_w, i32_w]
     rfl
    refine one_ (i := 7) (N := some 14) #[true, true, true, true, true, true, true, true, true, false] rfl rfl (one_of HT_.out (by kernel_rfl)) (by decide) (fun K hK => ?_)
    refine goes_ Tryd.func38 (by kernel_rfl) rfl #[.agg #[.bool t434, .slice Ao38 t435.length co38], .agg #[.bool t438, .slice Ao39 t439.length co39]] (by rfl) rfl rfl gm_ ?_
    with_reducible refine (pochoirref02_Sub.calls k t434 _ _ t435 t438 (fun k_ => some k_ = (.slice Ao39 t439.length co39 : Value).ownBlock) (.slice Ao39 t439.length co39) t439 t442 t443 w _ ?side1 ?side2 ?side3 ?side4 A5.out).mono ?_
    (case side1 => exact bl HB)
    (case side2 => exact Kd.C_kept_own (HO437.out) (fun k_ hk_ hs_ => (hk_.2) hs_))
    (case side3 => exact (Kd.R_reads' HO437.out).2.1)
    (case side4 => exact Kd.R_tight rfl HO441.out)
    rintro e w40 ⟨v444, rfl, ho0, hb, hkp⟩
    refine ⟨_, rfl, ?_⟩
    replace BK432 := Aside0.mk (blk_kept (kb BK432) hkp (fun hs_ => (fun e_ => (Kd.R_ne HO441.out BK432.out (by decide)) e_) hs_))
    replace BK446 := Aside0.mk (blk_kept (kb BK446) hkp (fun hs_ => (fun e_ => (Kd.R_ne HO441.out BK446.out (by decide)) e_) hs_))
    have HO445 := Aside0.mk (Kd.R_mono (ok' := fun k_ => some k_ ≠ (.slice Ao38 t435.length co38 : Value).ownBlock) ho0 (fun k_ hk_ => Or.elim hk_ (fun hs_ => fun e_ => (((HO437.out).1 k_ e_.symm).2) hs_) (fun hn_ => (Kd.fresh' (Kd.R_lt (by (with_reducible repeat (first | apply Kd.R_alloc | apply Kd.R_drewN | apply Kd.R_drew)); exact HO437.out)) k_ hn_))))
    replace HO437 := Aside0.mk (Kd.R_mono (ok' := fun k_ => some k_ ≠ (v444 : Value).ownBlock) (Kd.R_keptB (HO437.out) hkp (fun k_ hk_ hs_ => (hk_.2) hs_)) (fun k_ hk_ => fun e_ => Or.elim (ho0.1 k_ e_.symm) (fun hs_ => hk_.2.1 hs_) (fun hn_ => Nat.not_le.2 hk_.2.2 hn_)))
    replace HB := Aside0.mk (hb)
    clear HO441
    (try clear hb)
    (try clear hkp)
    (try clear ho0)
    refine hK.out _ _ ⟨ck BK432 0, ck BK432 1⟩ (fun hHeld => ?_)
    clear hK K
    refine norm_ (a' := ?_) ?_ ?_
    rotate_left
    ·show Act.put _ (some 14) _ = _
     simp only [Act.put, List.setIfInBounds_toArray, List.set_cons_zero, List.set_cons_succ, i64_w, i32_w]
     rfl
    exact norm_ (by simp only [putAll, Act.put, List.setIfInBounds_toArray, List.set_cons_zero, List.set_cons_succ]) (hCont (.slice Ao38 t435.length co38, .slice Ao39 t439.length co39, v444, gb446) _ ⟨hHeld, (by (with_reducible repeat (first | apply Kd.R_alloc | apply Kd.R_drewN | apply Kd.R_drew)); exact HO437.out), (by (with_reducible repeat (first | apply Kd.R_alloc | apply Kd.R_drewN | apply Kd.R_drew)); exact HO445.out), (kb BK432), (kb BK446), GW446.out, GE446.out, NB432_446.out, NB446_432.out, (bl HB)⟩)
  rintro ⟨v436, v440, v444, gb446⟩ w41 ⟨hS_, h0_, h1_, h2_, h3_, h4_, h5_, h6_, h7_, h8_⟩
  have n0_ : Aside0 (Kd.R (Kd.int .u64) 45 w41 w.heap.size (fun k_ => some k_ ≠ (v444 : Value).ownBlock) v436 t435) := ⟨h0_⟩
  have n1_ : Aside0 (Kd.R (Kd.int .u64) 45 w41 w.heap.size (fun k_ => some k_ ≠ (v436 : Value).ownBlock) v444 t443) := ⟨h1_⟩
  have n2_ : Aside0 (w41.heap[gb432]? = some (.cells #[.int .i64 a0_0, .int .i64 a0_1] 24 (0, 0))) := ⟨h2_⟩
  have n3_ : Aside0 (w41.heap[gb446]? = some (.cells #[.bool false, .slice none 0 0] 61 (0, 0))) := ⟨h3_⟩
  have n4_ : Aside0 (w.heap.size ≤ gb446) := ⟨h4_⟩
  have n5_ : Aside0 (w.heap.size ≤ gb446) := ⟨h5_⟩
  have n6_ : Aside0 (gb432 ≠ gb446) := ⟨h6_⟩
  have n7_ : Aside0 (gb446 ≠ gb432) := ⟨h7_⟩
  have n8_ : Aside0 (Below w.heap.size w w41) := ⟨h8_⟩
  clear BK432
  clear HB
  clear h0_ h1_ h2_ h3_ h4_ h5_ h6_ h7_ h8_
  have HO437 := n0_
  have HO445 := n1_
  have BK432 := n2_
  have BK446 := n3_
  have GW446 := n4_
  have GE446 := n5_
  have NB432_446 := n6_
  have NB446_432 := n7_
  have HB := n8_
  clear n0_ n1_ n2_ n3_ n4_ n5_ n6_ n7_ n8_
  have hHeld : w41.cell? ⟨gb432, 0, none⟩ = some (.int .i64 a0_0) ∧ w41.cell? ⟨gb432, 1, none⟩ = some (.int .i64 a0_1) := hS_
  obtain ⟨Ao43, co43, eo43⟩ := Kd.R_slice HO445.out
  (first | subst eo43 | (injection eo43 with f1_ f2_ f3_; have f4_ := f1_.symm; have f5_ := f3_.symm; clear f1_ f2_ f3_; subst f4_; subst f5_))
  refine norm_ (a' := ?_) ?_ ?_
  rotate_left
  ·simp only [putAll, Act.put, List.setIfInBounds_toArray, List.set_cons_zero, List.set_cons_succ]
   rfl
  refine one_ (i := 9) (N := none) #[true, true, true, true, true, true, true, true, true, true] rfl rfl (one_of HT_.out (by kernel_rfl)) (by decide) (fun K hK => ?_)
  have hs42 : w41.cell? ⟨gb446, 0, none⟩ = some (.bool false) := ck BK446 0
  have hfs42 := blk_frozen BK446.out 0
  have hns42_0 := NB432_446.out
  have hms42_0 := NB446_432.out
  have hs44 : w41.cell? ⟨gb446, 1, none⟩ = some (.slice none 0 0) := ck BK446 1
  have hfs44 := blk_frozen BK446.out 1
  have hns44_0 := NB432_446.out
  have hms44_0 := NB446_432.out
  refine skip_ (w1 := ?_) (by rfl) rfl ?_ ?_
  rotate_left
  ·go_simp
   rfl
  refine hK.out _ _ ⟨((cell_far (p := ⟨gb446, _, none⟩) NB432_446.out _).trans (((cell_far (p := ⟨gb446, _, none⟩) NB432_446.out _).trans (hHeld.1)))), ((cell_far (p := ⟨gb446, _, none⟩) NB432_446.out _).trans (((cell_far (p := ⟨gb446, _, none⟩) NB432_446.out _).trans (hHeld.2))))⟩ (fun hHeld => ?_)
  clear hK K
  refine done_ (done_of HT_.out (by kernel_rfl)) ?_
  try go_wp2
  have n0_ : Aside0 (Kd.R (Kd.int .u64) 45 ((w41.setCell ⟨gb446, 0, none⟩ (.bool t442)).setCell ⟨gb446, 1, none⟩ (.slice Ao43 t443.length co43)) w.heap.size (fun k_ => some k_ ≠ (.slice Ao43 t443.length co43 : Value).ownBlock) v436 t435) := ⟨by (with_reducible repeat (first | apply Kd.R_alloc | apply Kd.R_drewN | apply Kd.R_drew)); exact Kd.R_mono (Kd.R_far (p := ⟨gb446, 1, none⟩) (Kd.R_far (p := ⟨gb446, 0, none⟩) (Kd.R_types HO437.out BK446.out (by decide)) (fun _ hk => hk.2) (.bool t442)) (fun _ hk => hk.2) (.slice Ao43 t443.length co43)) (fun _ hk => hk.1)⟩
  have n1_ : Aside0 (Kd.R (Kd.int .u64) 45 ((w41.setCell ⟨gb446, 0, none⟩ (.bool t442)).setCell ⟨gb446, 1, none⟩ (.slice Ao43 t443.length co43)) w.heap.size (fun k_ => some k_ ≠ (v436 : Value).ownBlock) (.slice Ao43 t443.length co43) t443) := ⟨by (with_reducible repeat (first | apply Kd.R_alloc | apply Kd.R_drewN | apply Kd.R_drew)); exact Kd.R_mono (Kd.R_far (p := ⟨gb446, 1, none⟩) (Kd.R_far (p := ⟨gb446, 0, none⟩) (Kd.R_types HO445.out BK446.out (by decide)) (fun _ hk => hk.2) (.bool t442)) (fun _ hk => hk.2) (.slice Ao43 t443.length co43)) (fun _ hk => hk.1)⟩
  have n2_ : Aside0 (((w41.setCell ⟨gb446, 0, none⟩ (.bool t442)).setCell ⟨gb446, 1, none⟩ (.slice Ao43 t443.length co43)).heap[gb432]? = some (.cells #[.int .i64 a0_0, .int .i64 a0_1] 24 (0, 0))) := ⟨by (with_reducible repeat (first | refine blk_drewN ?_ _ | refine blk_drew ?_ | refine blk_alloc ?_ _)); refine blk_far ?_ NB432_446.out _; (with_reducible repeat (first | refine blk_drewN ?_ _ | refine blk_drew ?_ | refine blk_alloc ?_ _)); refine blk_far ?_ NB432_446.out _; (with_reducible repeat (first | refine blk_drewN ?_ _ | refine blk_drew ?_ | refine blk_alloc ?_ _)); exact BK432.out⟩
  have n3_ : Aside0 (((w41.setCell ⟨gb446, 0, none⟩ (.bool t442)).setCell ⟨gb446, 1, none⟩ (.slice Ao43 t443.length co43)).heap[gb446]? = some (.cells #[.bool t442, .slice Ao43 t443.length co43] 61 (0, 0))) := ⟨by (with_reducible repeat (first | refine blk_drewN ?_ _ | refine blk_drew ?_ | refine blk_alloc ?_ _)); refine blk_put (cs := #[.bool t442, .slice none 0 0]) ?_ 1 _ rfl; (with_reducible repeat (first | refine blk_drewN ?_ _ | refine blk_drew ?_ | refine blk_alloc ?_ _)); refine blk_put (cs := #[.bool false, .slice none 0 0]) ?_ 0 _ rfl; (with_reducible repeat (first | refine blk_drewN ?_ _ | refine blk_drew ?_ | refine blk_alloc ?_ _)); exact BK446.out⟩
  have n4_ : Aside0 (Below w.heap.size w ((w41.setCell ⟨gb446, 0, none⟩ (.bool t442)).setCell ⟨gb446, 1, none⟩ (.slice Ao43 t443.length co43))) := ⟨bl HB⟩
  (try clear HO437)
  (try clear HO445)
  (try clear BK432)
  (try clear BK446)
  (try clear HB)
  generalize ((w41.setCell ⟨gb446, 0, none⟩ (.bool t442)).setCell ⟨gb446, 1, none⟩ (.slice Ao43 t443.length co43)) = w45 at n0_ n1_ n2_ n3_ n4_ ⊢
  have HO437 := n0_
  have HO445 := n1_
  have BK432 := n2_
  have BK446 := n3_
  have HB := n4_
  clear n0_ n1_ n2_ n3_ n4_
  replace HO437 := Aside0.mk (Kd.R_drew HO437.out)
  replace HO445 := Aside0.mk (Kd.R_drew HO445.out)
  replace BK432 := Aside0.mk (blk_drew BK432.out)
  replace BK446 := Aside0.mk (blk_drew BK446.out)
  replace HB := Aside0.mk (below_drew1 HB.out)
  refine start_ (n := 8) (S := fun w' => w'.cell? ⟨gb446, 0, none⟩ = some (.bool t442) ∧ w'.cell? ⟨gb446, 1, none⟩ = some (.slice Ao43 t443.length co43) ∧ w'.cell? ⟨gb432, 0, none⟩ = some (.int .i64 a0_0) ∧ w'.cell? ⟨gb432, 1, none⟩ = some (.int .i64 a0_1)) (ds := []) #[false, false, false, false, false, false, false, false] (by kernel_rfl) rfl rfl ⟨ck BK446 0, ck BK446 1, ck BK432 0, ck BK432 1⟩ (fun hHeld => ?_); refine with_tabW pochoirref03_Round.tab3 pochoirref03_Round.bits3 (fun HT_ HW_ => ?_)
  generalize w45.drew = w46 at HO437 HO445 BK432 BK446 HB hHeld ⊢
  refine pure_ (i := 3) (N := some 18) (v := ?_) (a' := ?_) #[false, false, false, true, false, false, false, false] rfl rfl (any_of HT_.out (by kernel_rfl)) (fun _ _ _ h => h) (Or.inl ⟨by rfl, ?_⟩) ?_ ?_
  rotate_left
  ·intro w'
   go_simp
   with_reducible rfl
  rotate_left
  ·simp only [Act.put, List.setIfInBounds_toArray, List.set_cons_zero, List.set_cons_succ, i64_w, i32_w]
   rfl
  refine take_ (i := 0) (N := some 15) (v := ?_) (a' := ?_) #[true, false, false, true, false, false, false, false] rfl rfl (take_ofW HT_.out HW_.out (by kernel_rfl)) (fun _ _ _ h => h) (Or.inl ⟨by rfl, ?_⟩) hHeld ?_ ?_
  rotate_left
  ·rintro w' ⟨s0, s1, s2, s3⟩
   go_simp
   with_reducible rfl
  rotate_left
  ·simp only [Act.put, List.setIfInBounds_toArray, List.set_cons_zero, List.set_cons_succ, i64_w, i32_w]
   rfl
  refine take_ (i := 1) (N := some 16) (v := ?_) (a' := ?_) #[true, true, false, true, false, false, false, false] rfl rfl (take_ofW HT_.out HW_.out (by kernel_rfl)) (fun _ _ _ h => h) (Or.inl ⟨by rfl, ?_⟩) hHeld ?_ ?_
  rotate_left
  ·rintro w' ⟨s0, s1, s2, s3⟩
   go_simp
   with_reducible rfl
  rotate_left
  ·simp only [Act.put, List.setIfInBounds_toArray, List.set_cons_zero, List.set_cons_succ, i64_w, i32_w]
   rfl
  refine take_ (i := 4) (N := some 19) (v := ?_) (a' := ?_) #[true, true, false, true, true, false, false, false] rfl rfl (take_ofW HT_.out HW_.out (by kernel_rfl)) (fun _ _ _ h => h) (Or.inl ⟨by rfl, ?_⟩) hHeld ?_ ?_
  rotate_left
  ·rintro w' ⟨s0, s1, s2, s3⟩
   go_simp
   with_reducible rfl
  rotate_left
  ·simp only [Act.put, List.setIfInBounds_toArray, List.set_cons_zero, List.set_cons_succ, i64_w, i32_w]
   rfl
  refine one_ (i := 2) (N := some 17) #[true, true, true, true, true, false, false, false] rfl rfl (one_of HT_.out (by kernel_rfl)) (by decide) (fun K hK => ?_)
  refine goes_ Tryd.func40 (by kernel_rfl) rfl #[.agg #[.bool t442, .slice Ao43 t443.length co43], .agg #[.bool t442, .slice Ao43 t443.length co43]] (by rfl) rfl rfl gm_ ?_
  with_reducible refine (pochoirref02_Add.calls k t442 _ _ t443 t442 _ _ t443 t447 t448 _ ?side1 ?side2 ?side3 ?side4 A6.out).mono ?_
  (case side1 => repeat (first | exact (Kd.R_reads' HO445.out).2.2 | (with_reducible refine Kd.C_alloc ?_ _) | (with_reducible refine Kd.C_drewN ?_ _) | (with_reducible refine Kd.C_drew ?_)))
  (case side2 => exact (Kd.R_reads' HO445.out).2.1)
  (case side3 => repeat (first | exact (Kd.R_reads' HO445.out).2.2 | (with_reducible refine Kd.C_alloc ?_ _) | (with_reducible refine Kd.C_drewN ?_ _) | (with_reducible refine Kd.C_drew ?_)))
  (case side4 => exact (Kd.R_reads' HO445.out).2.1)
  rintro e w47 ⟨v449, rfl, ho0, hb⟩
  refine ⟨_, rfl, ?_⟩
  have HO450 := Aside0.mk (Kd.R_lower (Kd.R_new' (Kd.R_new' ho0 (Kd.R_lt (by (with_reducible repeat (first | apply Kd.R_alloc | apply Kd.R_drewN | apply Kd.R_drew)); exact HO437.out))) (Kd.R_lt (by (with_reducible repeat (first | apply Kd.R_alloc | apply Kd.R_drewN | apply Kd.R_drew)); exact HO445.out))) (below_size (bl HB)))
  replace HO437 := Aside0.mk (Kd.R_elder' (by (with_reducible repeat (first | apply Kd.R_alloc | apply Kd.R_drewN | apply Kd.R_drew)); exact HO437.out) (Kd.R_base ho0) hb)
  replace HO445 := Aside0.mk (Kd.R_elder' (by (with_reducible repeat (first | apply Kd.R_alloc | apply Kd.R_drewN | apply Kd.R_drew)); exact HO445.out) (Kd.R_base ho0) hb)
  replace BK432 := Aside0.mk (blk_below (kb BK432) hb)
  replace BK446 := Aside0.mk (blk_below (kb BK446) hb)
  replace HB := Aside0.mk (below_step (bl HB) hb)
  (try clear hb)
  (try clear hb2)
  (try clear hk)
  (try clear hi)
  (try clear ho0)
  refine hK.out _ _ ⟨ck BK446 0, ck BK446 1, ck BK432 0, ck BK432 1⟩ (fun hHeld => ?_)
  clear hK K
  refine norm_ (a' := ?_) ?_ ?_
  rotate_left
  ·show Act.put _ (some 17) _ = _
   simp only [Act.put, List.setIfInBounds_toArray, List.set_cons_zero, List.set_cons_succ, i64_w, i32_w]
   rfl
  refine one_ (i := 5) (N := some 20) #[true, true, true, true, true, true, false, false] rfl rfl (one_of HT_.out (by kernel_rfl)) (by decide) (fun K hK => ?_)
  refine goes_ Tryd.func39 (by kernel_rfl) rfl #[.int .i64 a0_1] (by rfl) rfl rfl gm_ ?_
  with_reducible refine (pochoirref02_Of.calls k a0_1 t451 t452 _ A7.out).mono ?_
  rintro e w48 ⟨v453, rfl, ho0, hb⟩
  refine ⟨_, rfl, ?_⟩
  have HO454 := Aside0.mk (Kd.R_lower (Kd.R_new' (Kd.R_new' (Kd.R_new' ho0 (Kd.R_lt (by (with_reducible repeat (first | apply Kd.R_alloc | apply Kd.R_drewN | apply Kd.R_drew)); exact HO437.out))) (Kd.R_lt (by (with_reducible repeat (first | apply Kd.R_alloc | apply Kd.R_drewN | apply Kd.R_drew)); exact HO445.out))) (Kd.R_lt (by (with_reducible repeat (first | apply Kd.R_alloc | apply Kd.R_drewN | apply Kd.R_drew)); exact HO450.out))) (below_size (bl HB)))
  replace HO437 := Aside0.mk (Kd.R_elder' (by (with_reducible repeat (first | apply Kd.R_alloc | apply Kd.R_drewN | apply Kd.R_drew)); exact HO437.out) (Kd.R_base ho0) hb)
  replace HO445 := Aside0.mk (Kd.R_elder' (by (with_reducible repeat (first | apply Kd.R_alloc | apply Kd.R_drewN | apply Kd.R_drew)); exact HO445.out) (Kd.R_base ho0) hb)
  replace HO450 := Aside0.mk (Kd.R_elder' (by (with_reducible repeat (first | apply Kd.R_alloc | apply Kd.R_drewN | apply Kd.R_drew)); exact HO450.out) (Kd.R_base ho0) hb)
  replace BK432 := Aside0.mk (blk_below (kb BK432) hb)
  replace BK446 := Aside0.mk (blk_below (kb BK446) hb)
  replace HB := Aside0.mk (below_step (bl HB) hb)
  (try clear hb)
  (try clear hb2)
  (try clear hk)
  (try clear hi)
  (try clear ho0)
  obtain ⟨Ao49, co49, eo49⟩ := Kd.R_slice HO450.out
  (first | subst eo49 | (injection eo49 with f1_ f2_ f3_; have f4_ := f1_.symm; have f5_ := f3_.symm; clear f1_ f2_ f3_; subst f4_; subst f5_))
  obtain ⟨Ao50, co50, eo50⟩ := Kd.R_slice HO454.out
  (first | subst eo50 | (injection eo50 with f1_ f2_ f3_; have f4_ := f1_.symm; have f5_ := f3_.symm; clear f1_ f2_ f3_; subst f4_; subst f5_))
  refine hK.out _ _ ⟨ck BK446 0, ck BK446 1, ck BK432 0, ck BK432 1⟩ (fun hHeld => ?_)
  clear hK K
  refine norm_ (a' := ?_) ?_ ?_
  rotate_left
  ·show Act.put _ (some 20) _ = _
   simp only [Act.put, List.setIfInBounds_toArray, List.set_cons_zero, List.set_cons_succ, i64_w, i32_w]
   rfl
  refine one_ (i := 6) (N := some 21) #[true, true, true, true, true, true, true, false] rfl rfl (one_of HT_.out (by kernel_rfl)) (by decide) (fun K hK => ?_)
  refine goes_ Tryd.func36 (by kernel_rfl) rfl #[.agg #[.bool t447, .slice Ao49 t448.length co49], .agg #[.bool t451, .slice Ao50 t452.length co50]] (by rfl) rfl rfl gm_ ?_
  with_reducible refine (pochoirref02_Cmp.calls k t447 _ _ t448 t451 (fun k_ => some k_ = (.slice Ao50 t452.length co50 : Value).ownBlock) (.slice Ao50 t452.length co50) t452 t455 w _ ?side1 ?side2 ?side3 ?side4 A8.out).mono ?_
  (case side1 => exact bl HB)
  (case side2 => exact Kd.C_kept_own (HO450.out) (fun k_ hk_ hs_ => (hk_.2) hs_))
  (case side3 => exact (Kd.R_reads' HO450.out).2.1)
  (case side4 => exact Kd.R_tight rfl HO454.out)
  rintro e w51 ⟨rfl, hb, hkp⟩
  refine ⟨_, rfl, ?_⟩
  replace BK432 := Aside0.mk (blk_kept (kb BK432) hkp (fun hs_ => (fun e_ => (Kd.R_ne HO454.out BK432.out (by decide)) e_) hs_))
  replace HO437 := Aside0.mk (Kd.R_mono (ok' := fun k_ => some k_ ≠ (.slice Ao43 t443.length co43 : Value).ownBlock ∧ some k_ ≠ (.slice Ao49 t448.length co49 : Value).ownBlock) (Kd.R_keptB (HO437.out) hkp (fun k_ hk_ hs_ => (hk_.2) hs_)) (fun k_ hk_ => ⟨hk_.1.1.1, hk_.1.1.2⟩))
  replace HO445 := Aside0.mk (Kd.R_mono (ok' := fun k_ => some k_ ≠ (v436 : Value).ownBlock ∧ some k_ ≠ (.slice Ao49 t448.length co49 : Value).ownBlock) (Kd.R_keptB (HO445.out) hkp (fun k_ hk_ hs_ => (hk_.2) hs_)) (fun k_ hk_ => ⟨hk_.1.1.1, hk_.1.1.2⟩))
  replace BK446 := Aside0.mk (blk_kept (kb BK446) hkp (fun hs_ => (fun e_ => (Kd.R_ne HO454.out BK446.out (by decide)) e_) hs_))
  replace HO450 := Aside0.mk (Kd.R_mono (ok' := fun k_ => some k_ ≠ (v436 : Value).ownBlock ∧ some k_ ≠ (.slice Ao43 t443.length co43 : Value).ownBlock) (Kd.R_keptB (HO450.out) hkp (fun k_ hk_ hs_ => (hk_.2) hs_)) (fun k_ hk_ => ⟨hk_.1.1.1.2, hk_.1.1.2⟩))
  replace HB := Aside0.mk (hb)
  clear HO454
  (try clear hb)
  (try clear hkp)
  refine hK.out _ _ ⟨ck BK446 0, ck BK446 1, ck BK432 0, ck BK432 1⟩ (fun hHeld => ?_)
  clear hK K
  refine norm_ (a' := ?_) ?_ ?_
  rotate_left
  ·show Act.put _ (some 21) _ = _
   simp only [Act.put, List.setIfInBounds_toArray, List.set_cons_zero, List.set_cons_succ, i64_w, i32_w]
   rfl
  refine pure_ (i := 7) (N := some 22) (v := ?_) (a' := ?_) #[true, true, true, true, true, true, true, true] rfl rfl (any_of HT_.out (by kernel_rfl)) (fun _ _ _ h => h) (Or.inl ⟨by rfl, ?_⟩) ?_ ?_
  rotate_left
  ·intro w'
   go_simp
   with_reducible rfl
  rotate_left
  ·simp only [Act.put, List.setIfInBounds_toArray, List.set_cons_zero, List.set_cons_succ, i64_w, i32_w]
   rfl
  refine done_ (done_of HT_.out (by kernel_rfl)) ?_
  try go_wp2
  go_ret
  exact ⟨by first | rfl | (simp [errW_none, errW_some] <;> rfl) | (simp [*, errW_none, errW_some] <;> rfl), bl HB⟩

end Go.Proofs.YtglcjhjmncolpaaDoor.Q
