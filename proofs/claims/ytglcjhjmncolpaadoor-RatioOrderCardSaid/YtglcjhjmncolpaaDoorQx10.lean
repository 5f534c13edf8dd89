-- Written for this claim by a program of the session (wip/print2). Not trusted: Lean checks it.
import Derived.Test.YtglcjhjmncolpaaDoorQx0
import Derived.Test.YtglcjhjmncolpaaDoorQx1
import Derived.Test.YtglcjhjmncolpaaDoorQx9
namespace Go.Proofs.YtglcjhjmncolpaaDoor.Q
open Go.RowKit Go.Proofs.YtglcjhjmncolpaaDoorW.PrintWords Go.Proofs.YtglcjhjmncolpaaDoorW.PrintLast Go.Proofs.YtglcjhjmncolpaaDoorW.PrintMore
attribute [local go_sem] max2_int min2_int max_two min_two max_three min_three max_four min_four   -- for this text's walks alone
set_option linter.unusedVariables false
set_option linter.unusedSimpArgs false

attribute [local go_sem high] eqA24
/-! ### ratio_Text: function 25 -/
def ratio_Text.f (k : Nat) (a0_0 : Int) (a0_1 : Int) : Option (ByteArray × Int) := (ratio_May.f k a0_0 a0_1).bind fun t235 => (if t235 = true then (if a0_1 = 1 then ((strconv_FormatInt.f a0_0 10).bind fun t236 => (some (t236, 0))) else ((strconv_FormatInt.f a0_0 10).bind fun t237 => (if t237.size + 1 ≤ 9223372036854775807 then ((strconv_FormatInt.f a0_1 10).bind fun t238 => (if (t237 ++ (⟨#[47]⟩ : ByteArray)).size + t238.size ≤ 9223372036854775807 then (some ((t237 ++ (⟨#[47]⟩ : ByteArray)) ++ t238, 0)) else (none))) else (none)))) else (some ((⟨#[]⟩ : ByteArray), 1)))
theorem ratio_Text.mono : ∀ a0 a1 k, LeO (ratio_Text.f k a0 a1) (ratio_Text.f (k + 1) a0 a1) := by
 intro a0 a1 k
 unfold ratio_Text.f
 repeat' first
   | (with_reducible exact ratio_May.mono _ _ _)
   | (with_reducible exact LeO.refl _)
   | (with_reducible exact LeO.none _)
   | (with_reducible refine LeO.ite ?_ ?_)
   | (with_reducible refine LeO.bind ?_ (fun _ => ?_))
   | exact ratio_May.mono _ _ _
   | exact LeO.none _
   | refine LeO.ite ?_ ?_
   | refine LeO.bind ?_ (fun _ => ?_)
def ratio_Text.T5 : Bool × List (List Nat × List Nat) := (true, [([], []), ([0], [0]), ([1], [1]), ([2], [2]), ([], []), ([4], [4]), ([5, 2], [5]), ([3, 6], [3, 6]), ([7, 6, 0, 1, 2, 3, 4, 5, 6, 7], [7]), ([8, 0, 1, 2, 3, 4, 5, 6, 7, 8], [])])
def ratio_Text.B5 : List Nat := [0, 1, 3, 7, 0, 16, 55, 127, 255, 511]
theorem ratio_Text.tab5 : rtab .any (opsOf Tryd.f25 5) = ratio_Text.T5 := by kernel_rfl
theorem ratio_Text.bits5 : waitsOk ratio_Text.T5.2 ratio_Text.B5 = true := by kernel_rfl
set_option maxHeartbeats 8000000 in
set_option maxRecDepth 100000 in
theorem ratio_Text.calls (k : Nat) (a0_0 : Int) (a0_1 : Int) (r1 : ByteArray) (r2 : Int) (w : World) (hG : Glob w) (h : ratio_Text.f k a0_0 a0_1 = some (r1, r2)) :
  Calls Tryd.prog 25 #[.agg #[.int .i64 a0_0, .int .i64 a0_1]] w fun e w' => e = .returned (.tuple #[.string r1, .int .i64 r2]) ∧ Below w.heap.size w w' := by
 have hu24 := Tryd.underlying24
 have HB := Aside0.mk (Below.refl w.heap.size w)
 have H : ((ratio_May.f k a0_0 a0_1).bind fun t235 => (if t235 = true then (if a0_1 = 1 then ((strconv_FormatInt.f a0_0 10).bind fun t236 => (some (t236, 0))) else ((strconv_FormatInt.f a0_0 10).bind fun t237 => (if t237.size + 1 ≤ 9223372036854775807 then ((strconv_FormatInt.f a0_1 10).bind fun t238 => (if (t237 ++ (⟨#[47]⟩ : ByteArray)).size + t238.size ≤ 9223372036854775807 then (some ((t237 ++ (⟨#[47]⟩ : ByteArray)) ++ t238, 0)) else (none))) else (none)))) else (some ((⟨#[]⟩ : ByteArray), 1)))) = some (r1, r2) := h
 clear h
 replace H := Option.bind_eq_some_iff.mp H
 obtain ⟨t235, A20, H⟩ := H
 replace H : (if t235 = true then (if a0_1 = 1 then ((strconv_FormatInt.f a0_0 10).bind fun t236 => (some (t236, 0))) else ((strconv_FormatInt.f a0_0 10).bind fun t237 => (if t237.size + 1 ≤ 9223372036854775807 then ((strconv_FormatInt.f a0_1 10).bind fun t238 => (if (t237 ++ (⟨#[47]⟩ : ByteArray)).size + t238.size ≤ 9223372036854775807 then (some ((t237 ++ (⟨#[47]⟩ : ByteArray)) ++ t238, 0)) else (none))) else (none)))) else (some ((⟨#[]⟩ : ByteArray), 1))) = some (r1, r2) := H
 have A2 := Aside0.mk A20
 clear A20
 by_cases c3 : t235 = true
 ·subst c3
  have H1 : (if a0_1 = 1 then ((strconv_FormatInt.f a0_0 10).bind fun t236 => (some (t236, 0))) else ((strconv_FormatInt.f a0_0 10).bind fun t237 => (if t237.size + 1 ≤ 9223372036854775807 then ((strconv_FormatInt.f a0_1 10).bind fun t238 => (if (t237 ++ (⟨#[47]⟩ : ByteArray)).size + t238.size ≤ 9223372036854775807 then (some ((t237 ++ (⟨#[47]⟩ : ByteArray)) ++ t238, 0)) else (none))) else (none)))) = some (r1, r2) := by rw [if_pos rfl] at H; exact H
  clear H
  have H := H1
  clear H1
  by_cases c4 : a0_1 = 1
  ·rw [if_pos c4] at H
   have c4b0 : (a0_1 == 1) = true := beq_iff_eq.mpr c4
   have c4b1 : (a0_1 != 1) = false := bne_eq_false_iff_eq.mpr c4
   clear c4
   replace H := Option.bind_eq_some_iff.mp H
   obtain ⟨t236, A50, H⟩ := H
   replace H : (some (t236, 0)) = some (r1, r2) := H
   have A5 := Aside0.mk A50
   clear A50
   simp only [Option.some.injEq, Prod.mk.injEq] at H
   obtain ⟨rfl, rfl⟩ := H
   go_enter Tryd.func25, Tryd.ntmps25
   go_wp2_with (first | ((with_reducible refine gate_dst (N := 1) rfl ?_); refine box_event ?hg (N := 1) ?hd (cs := #[.int .i64 a0_0, .int .i64 a0_1]) (t := 24) ?hr ?_; (case hd => rfl); (case hg => rfl); (case hr => exact gs_); intro gb234 hg w6 hbox hb; have BK234 := Aside0.mk (hbox); have GW234 := Aside0.mk ((by rw [hg]; exact (below_size (bl HB)) : w.heap.size ≤ gb234)); have GE234 := Aside0.mk ((by rw [hg]; exact (below_size (bl HB)) : w.heap.size ≤ gb234)); replace HB := Aside0.mk (below_step (bl HB) hb); clear hb hbox hg; have hcz7_0 := ck BK234 0; have hcz7_1 := ck BK234 1; have hfz7_0 := blk_frozen BK234.out 0; have hfz7_1 := blk_frozen BK234.out 1) | ((with_reducible refine gate_callee (f := 9) rfl ?_); refine goesL_ (some 6) rfl rfl Tryd.func9 (by kernel_rfl) rfl #[.agg #[.int .i64 a0_0, .int .i64 a0_1]] rfl gm_ ?_; (with_reducible refine (ratio_May.calls k a0_0 a0_1 true _ ?side1 A2.out).mono ?_); (case side1 => exact Glob.step hG (bl HB)); rintro e w8 ⟨rfl, hb⟩; refine ⟨_, rfl, ?_⟩; replace BK234 := Aside0.mk (blk_below (kb BK234) hb); replace HB := Aside0.mk (below_step (bl HB) hb); (try clear hb); (try clear hb2); (try clear hk); (try clear hi); have hcz9_0 := ck BK234 0; have hcz9_1 := ck BK234 1; have hfz9_0 := blk_frozen BK234.out 0; have hfz9_1 := blk_frozen BK234.out 1) | ((with_reducible refine gate_callee (f := 43) rfl ?_); refine goesL_ (some 14) rfl rfl Tryd.func43 (by kernel_rfl) rfl #[.int .i64 a0_0, .int .i64 10] rfl gm_ ?_; (with_reducible refine (strconv_FormatInt.calls a0_0 10 t236 _ ?side1 A5.out).mono ?_); (case side1 => exact Glob.step hG (bl HB)); rintro e w10 ⟨rfl, hb⟩; refine ⟨_, rfl, ?_⟩; replace BK234 := Aside0.mk (blk_below (kb BK234) hb); replace HB := Aside0.mk (below_step (bl HB) hb); (try clear hb); (try clear hb2); (try clear hk); (try clear hi)))
   go_ret2
   exact ⟨by first | rfl | (simp [errW_none, errW_some] <;> rfl) | (simp [*, errW_none, errW_some] <;> rfl), bl HB⟩
  ·rw [if_neg c4] at H
   have c4b0 : (a0_1 == 1) = false := beq_eq_false_iff_ne.mpr c4
   have c4b1 : (a0_1 != 1) = true := bne_iff_ne.mpr c4
   replace H := Option.bind_eq_some_iff.mp H
   obtain ⟨t237, A110, H⟩ := H
   replace H : (if t237.size + 1 ≤ 9223372036854775807 then ((strconv_FormatInt.f a0_1 10).bind fun t238 => (if (t237 ++ (⟨#[47]⟩ : ByteArray)).size + t238.size ≤ 9223372036854775807 then (some ((t237 ++ (⟨#[47]⟩ : ByteArray)) ++ t238, 0)) else (none))) else (none)) = some (r1, r2) := H
   have A11 := Aside0.mk A110
   clear A110
   by_cases c12 : t237.size + 1 ≤ 9223372036854775807
   ·rw [if_pos c12] at H
    have c12b0 := eq_true c12
    have c12b1 : decide (t237.size + 1 ≤ 9223372036854775807) = true := decide_eq_true c12
    try have c12b2 : (9223372036854775807 < t237.size + 1) = False := eq_false (Nat.not_lt.2 c12)
    replace H := Option.bind_eq_some_iff.mp H
    obtain ⟨t238, A130, H⟩ := H
    replace H : (if (t237 ++ (⟨#[47]⟩ : ByteArray)).size + t238.size ≤ 9223372036854775807 then (some ((t237 ++ (⟨#[47]⟩ : ByteArray)) ++ t238, 0)) else (none)) = some (r1, r2) := H
    have A13 := Aside0.mk A130
    clear A130
    by_cases c14 : (t237 ++ (⟨#[47]⟩ : ByteArray)).size + t238.size ≤ 9223372036854775807
    ·rw [if_pos c14] at H
     have c14b0 := eq_true c14
     have c14b1 : decide ((t237 ++ (⟨#[47]⟩ : ByteArray)).size + t238.size ≤ 9223372036854775807) = true := decide_eq_true c14
     try have c14b2 : (9223372036854775807 < (t237 ++ (⟨#[47]⟩ : ByteArray)).size + t238.size) = False := eq_false (Nat.not_lt.2 c14)
     try have c14b3 : (9223372036854775807 < t237.size + 1 + t238.size) = False := eq_false (by have h_ := c14; simp only [ByteArray.size_append] at h_; first | exact Nat.not_lt.2 h_ | (simp at h_ ⊢; omega))
     simp only [Option.some.injEq, Prod.mk.injEq] at H
     obtain ⟨rfl, rfl⟩ := H
     go_enter Tryd.func25, Tryd.ntmps25
     try go_wp2_with (first | ((with_reducible refine gate_dst (N := 1) rfl ?_); refine box_event ?hg (N := 1) ?hd (cs := #[.int .i64 a0_0, .int .i64 a0_1]) (t := 24) ?hr ?_; (case hd => rfl); (case hg => rfl); (case hr => exact gs_); intro gb234 hg w15 hbox hb; have BK234 := Aside0.mk (hbox); have GW234 := Aside0.mk ((by rw [hg]; exact (below_size (bl HB)) : w.heap.size ≤ gb234)); have GE234 := Aside0.mk ((by rw [hg]; exact (below_size (bl HB)) : w.heap.size ≤ gb234)); replace HB := Aside0.mk (below_step (bl HB) hb); clear hb hbox hg; have hcz16_0 := ck BK234 0; have hcz16_1 := ck BK234 1; have hfz16_0 := blk_frozen BK234.out 0; have hfz16_1 := blk_frozen BK234.out 1) | ((with_reducible refine gate_callee (f := 9) rfl ?_); refine goesL_ (some 6) rfl rfl Tryd.func9 (by kernel_rfl) rfl #[.agg #[.int .i64 a0_0, .int .i64 a0_1]] rfl gm_ ?_; (with_reducible refine (ratio_May.calls k a0_0 a0_1 true _ ?side1 A2.out).mono ?_); (case side1 => exact Glob.step hG (bl HB)); rintro e w17 ⟨rfl, hb⟩; refine ⟨_, rfl, ?_⟩; replace BK234 := Aside0.mk (blk_below (kb BK234) hb); replace HB := Aside0.mk (below_step (bl HB) hb); (try clear hb); (try clear hb2); (try clear hk); (try clear hi); have hcz18_0 := ck BK234 0; have hcz18_1 := ck BK234 1; have hfz18_0 := blk_frozen BK234.out 0; have hfz18_1 := blk_frozen BK234.out 1))
     replace BK234 := Aside0.mk (blk_drew BK234.out)
     replace HB := Aside0.mk (below_drew1 HB.out)
     refine start_ (n := 10) (S := fun w' => w'.cell? ⟨gb234, 0, none⟩ = some (.int .i64 a0_0) ∧ w'.cell? ⟨gb234, 1, none⟩ = some (.int .i64 a0_1)) (ds := []) #[false, false, false, false, false, false, false, false, false, false] (by kernel_rfl) rfl rfl ⟨ck BK234 0, ck BK234 1⟩ (fun hHeld => ?_); refine with_tabW ratio_Text.tab5 ratio_Text.bits5 (fun HT_ HW_ => ?_)
     generalize w17.drew = w19 at BK234 HB hHeld ⊢
     refine pure_ (i := 0) (N := some 15) (v := ?_) (a' := ?_) #[true, false, false, false, false, false, false, false, false, false] rfl rfl (any_of HT_.out (by kernel_rfl)) (fun _ _ _ h => h) (Or.inl ⟨by rfl, ?_⟩) ?_ ?_
     rotate_left
     ·intro w'
      go_simp
      with_reducible rfl
     rotate_left
     ·simp only [Act.put, List.setIfInBounds_toArray, List.set_cons_zero, List.set_cons_succ, i64_w, i32_w]
      rfl
     refine pure_ (i := 4) (N := some 19) (v := ?_) (a' := ?_) #[true, false, false, false, true, false, false, false, false, false] rfl rfl (any_of HT_.out (by kernel_rfl)) (fun _ _ _ h => h) (Or.inl ⟨by rfl, ?_⟩) ?_ ?_
     rotate_left
     ·intro w'
      go_simp
      with_reducible rfl
     rotate_left
     ·simp only [Act.put, List.setIfInBounds_toArray, List.set_cons_zero, List.set_cons_succ, i64_w, i32_w]
      rfl
     refine take_ (i := 1) (N := some 16) (v := ?_) (a' := ?_) #[true, true, false, false, true, false, false, false, false, false] rfl rfl (take_ofW HT_.out HW_.out (by kernel_rfl)) (fun _ _ _ h => h) (Or.inl ⟨by rfl, ?_⟩) hHeld ?_ ?_
     rotate_left
     ·rintro w' ⟨s0, s1⟩
      go_simp
      with_reducible rfl
     rotate_left
     ·simp only [Act.put, List.setIfInBounds_toArray, List.set_cons_zero, List.set_cons_succ, i64_w, i32_w]
      rfl
     refine take_ (i := 5) (N := some 20) (v := ?_) (a' := ?_) #[true, true, false, false, true, true, false, false, false, false] rfl rfl (take_ofW HT_.out HW_.out (by kernel_rfl)) (fun _ _ _ h => h) (Or.inl ⟨by rfl, ?_⟩) hHeld ?_ ?_
     rotate_left
     ·rintro w' ⟨s0, s1⟩
      go_simp
      with_reducible rfl
     rotate_left
     ·simp only [Act.put, List.setIfInBounds_toArray, List.set_cons_zero, List.set_cons_succ, i64_w, i32_w]
      rfl
     refine one_ (i := 2) (N := some 17) #[true, true, true, false, true, true, false, false, false, false] rfl rfl (one_of HT_.out (by kernel_rfl)) (by decide) (fun K hK => ?_)
     refine goes_ Tryd.func43 (by kernel_rfl) rfl #[.int .i64 a0_0, .int .i64 10] (by rfl) rfl rfl gm_ ?_
     with_reducible refine (strconv_FormatInt.calls a0_0 10 t237 _ ?side1 A11.out).mono ?_
     (case side1 => exact Glob.step hG (bl HB))
     rintro e w20 ⟨rfl, hb⟩
     refine ⟨_, rfl, ?_⟩
     replace BK234 := Aside0.mk (blk_below (kb BK234) hb)
     replace HB := Aside0.mk (below_step (bl HB) hb)
     (try clear hb)
     (try clear hb2)
     (try clear hk)
     (try clear hi)
     refine hK.out _ _ ⟨ck BK234 0, ck BK234 1⟩ (fun hHeld => ?_)
     clear hK K
     refine norm_ (a' := ?_) ?_ ?_
     rotate_left
     ·show Act.put _ (some 17) _ = _
      simp only [Act.put, List.setIfInBounds_toArray, List.set_cons_zero, List.set_cons_succ, i64_w, i32_w]
      rfl
     refine pure_ (i := 3) (N := some 18) (v := ?_) (a' := ?_) #[true, true, true, true, true, true, false, false, false, false] rfl rfl (any_of HT_.out (by kernel_rfl)) (fun _ _ _ h => h) (Or.inl ⟨by rfl, ?_⟩) ?_ ?_
     rotate_left
     ·intro w'
      go_simp
      with_reducible rfl
     rotate_left
     ·simp only [Act.put, List.setIfInBounds_toArray, List.set_cons_zero, List.set_cons_succ, i64_w, i32_w]
      rfl
     refine one_ (i := 6) (N := some 21) #[true, true, true, true, true, true, true, false, false, false] rfl rfl (one_of HT_.out (by kernel_rfl)) (by decide) (fun K hK => ?_)
     refine goes_ Tryd.func43 (by kernel_rfl) rfl #[.int .i64 a0_1, .int .i64 10] (by rfl) rfl rfl gm_ ?_
     with_reducible refine (strconv_FormatInt.calls a0_1 10 t238 _ ?side1 A13.out).mono ?_
     (case side1 => exact Glob.step hG (bl HB))
     rintro e w21 ⟨rfl, hb⟩
     refine ⟨_, rfl, ?_⟩
     replace BK234 := Aside0.mk (blk_below (kb BK234) hb)
     replace HB := Aside0.mk (below_step (bl HB) hb)
     (try clear hb)
     (try clear hb2)
     (try clear hk)
     (try clear hi)
     refine hK.out _ _ ⟨ck BK234 0, ck BK234 1⟩ (fun hHeld => ?_)
     clear hK K
     refine norm_ (a' := ?_) ?_ ?_
     rotate_left
     ·show Act.put _ (some 21) _ = _
      simp only [Act.put, List.setIfInBounds_toArray, List.set_cons_zero, List.set_cons_succ, i64_w, i32_w]
      rfl
     refine pure_ (i := 7) (N := some 22) (v := ?_) (a' := ?_) #[true, true, true, true, true, true, true, true, false, false] rfl rfl (any_of HT_.out (by kernel_rfl)) (fun _ _ _ h => h) (Or.inl ⟨by rfl, ?_⟩) ?_ ?_
     rotate_left
     ·intro w'
      go_simp
      with_reducible rfl
     rotate_left
     ·simp only [Act.put, List.setIfInBounds_toArray, List.set_cons_zero, List.set_cons_succ, i64_w, i32_w]
      rfl
     refine pure_ (i := 8) (N := some 2) (v := ?_) (a' := ?_) #[true, true, true, true, true, true, true, true, true, false] rfl rfl (any_of HT_.out (by kernel_rfl)) (fun _ _ _ h => h) (Or.inl ⟨by rfl, ?_⟩) ?_ ?_
     rotate_left
     ·intro w'
      go_simp
      with_reducible rfl
     rotate_left
     ·simp only [Act.put, List.setIfInBounds_toArray, List.set_cons_zero, List.set_cons_succ, i64_w, i32_w]
      rfl
     refine pure_ (i := 9) (N := some 3) (v := ?_) (a' := ?_) #[true, true, true, true, true, true, true, true, true, true] rfl rfl (any_of HT_.out (by kernel_rfl)) (fun _ _ _ h => h) (Or.inl ⟨by rfl, ?_⟩) ?_ ?_
     rotate_left
     ·intro w'
      go_simp
      with_reducible rfl
     rotate_left
     ·simp only [Act.put, List.setIfInBounds_toArray, List.set_cons_zero, List.set_cons_succ, i64_w, i32_w]
      rfl
     refine done_ (done_of HT_.out (by kernel_rfl)) ?_
     try go_wp2
     go_ret2
     exact ⟨by first | rfl | (simp [errW_none, errW_some] <;> rfl) | (simp [*, errW_none, errW_some] <;> rfl), bl HB⟩
    ·rw [if_neg c14] at H
     exact absurd H (by simp)
   ·rw [if_neg c12] at H
    exact absurd H (by simp)
 ·replace c3 := Bool.eq_false_iff.mpr c3
  subst c3
  have H1 : (some ((⟨#[]⟩ : ByteArray), 1)) = some (r1, r2) := by rw [if_neg (show ¬ (false = true) by decide)] at H; exact H
  clear H
  have H := H1
  clear H1
  simp only [Option.some.injEq, Prod.mk.injEq] at H
  obtain ⟨rfl, rfl⟩ := H
  go_enter Tryd.func25, Tryd.ntmps25
  go_wp2_with (first | ((with_reducible refine gate_dst (N := 1) rfl ?_); refine box_event ?hg (N := 1) ?hd (cs := #[.int .i64 a0_0, .int .i64 a0_1]) (t := 24) ?hr ?_; (case hd => rfl); (case hg => rfl); (case hr => exact gs_); intro gb234 hg w22 hbox hb; have BK234 := Aside0.mk (hbox); have GW234 := Aside0.mk ((by rw [hg]; exact (below_size (bl HB)) : w.heap.size ≤ gb234)); have GE234 := Aside0.mk ((by rw [hg]; exact (below_size (bl HB)) : w.heap.size ≤ gb234)); replace HB := Aside0.mk (below_step (bl HB) hb); clear hb hbox hg; have hcz23_0 := ck BK234 0; have hcz23_1 := ck BK234 1; have hfz23_0 := blk_frozen BK234.out 0; have hfz23_1 := blk_frozen BK234.out 1) | ((with_reducible refine gate_callee (f := 9) rfl ?_); refine goesL_ (some 6) rfl rfl Tryd.func9 (by kernel_rfl) rfl #[.agg #[.int .i64 a0_0, .int .i64 a0_1]] rfl gm_ ?_; (with_reducible refine (ratio_May.calls k a0_0 a0_1 false _ ?side1 A2.out).mono ?_); (case side1 => exact Glob.step hG (bl HB)); rintro e w24 ⟨rfl, hb⟩; refine ⟨_, rfl, ?_⟩; replace BK234 := Aside0.mk (blk_below (kb BK234) hb); replace HB := Aside0.mk (below_step (bl HB) hb); (try clear hb); (try clear hb2); (try clear hk); (try clear hi)))
  go_ret2
  exact ⟨by first | rfl | (simp [errW_none, errW_some] <;> rfl) | (simp [*, errW_none, errW_some] <;> rfl), bl HB⟩

/-! ### pochoirlaw03_awake: function 6 -/
def pochoirlaw03_awake.f (k : Nat)  : Option (Bool) := (ratio_New.f k 6 (-4)).bind fun bt239 => ((ratio_Floor.f k bt239.1 bt239.2.1).bind fun bt243 => ((ratio_Round.f k bt239.1 bt239.2.1).bind fun bt245 => ((ratio_Text.f k bt239.1 bt239.2.1).bind fun bt247 => (if (bt239.1 == (-3) && (bt239.2.1 == 2)) = true then (if bt239.2.2 = 0 then (if bt243.1 = (-2) then (if bt243.2 = 0 then (if bt245.1 = (-1) then (if bt245.2 = 0 then (if bt247.1.toList = ([45, 51, 47, 50] : List UInt8) then (some (bt247.2 == 0)) else (none)) else (none)) else (none)) else (none)) else (none)) else (none)) else (none)))))
theorem pochoirlaw03_awake.mono : ∀ k, LeO (pochoirlaw03_awake.f k ) (pochoirlaw03_awake.f (k + 1) ) := by
 intro  k
 unfold pochoirlaw03_awake.f
 repeat' first
   | (with_reducible exact ratio_Floor.mono _ _ _)
   | (with_reducible exact ratio_New.mono _ _ _)
   | (with_reducible exact ratio_Round.mono _ _ _)
   | (with_reducible exact ratio_Text.mono _ _ _)
   | (with_reducible exact LeO.refl _)
   | (with_reducible exact LeO.none _)
   | (with_reducible refine LeO.ite ?_ ?_)
   | (with_reducible refine LeO.bind ?_ (fun _ => ?_))
   | exact ratio_Floor.mono _ _ _
   | exact ratio_New.mono _ _ _
   | exact ratio_Round.mono _ _ _
   | exact ratio_Text.mono _ _ _
   | exact LeO.none _
   | refine LeO.ite ?_ ?_
   | refine LeO.bind ?_ (fun _ => ?_)
set_option maxHeartbeats 8000000 in
set_option maxRecDepth 100000 in
theorem pochoirlaw03_awake.calls (k : Nat)  (r : Bool) (w : World) (hG : Glob w) (h : pochoirlaw03_awake.f k  = some r) :
  Calls Tryd.prog 6 #[] w fun e w' => e = .returned (.bool r) ∧ Below w.heap.size w w' := by
 have hu24 := Tryd.underlying24
 have HB := Aside0.mk (Below.refl w.heap.size w)
 have H : ((ratio_New.f k 6 (-4)).bind fun bt239 => ((ratio_Floor.f k bt239.1 bt239.2.1).bind fun bt243 => ((ratio_Round.f k bt239.1 bt239.2.1).bind fun bt245 => ((ratio_Text.f k bt239.1 bt239.2.1).bind fun bt247 => (if (bt239.1 == (-3) && (bt239.2.1 == 2)) = true then (if bt239.2.2 = 0 then (if bt243.1 = (-2) then (if bt243.2 = 0 then (if bt245.1 = (-1) then (if bt245.2 = 0 then (if bt247.1.toList = ([45, 51, 47, 50] : List UInt8) then (some (bt247.2 == 0)) else (none)) else (none)) else (none)) else (none)) else (none)) else (none)) else (none)))))) = some r := h
 clear h
 replace H := Option.bind_eq_some_iff.mp H
 obtain ⟨⟨t239, t240, t241⟩, A10, H⟩ := H
 replace H : ((ratio_Floor.f k t239 t240).bind fun bt243 => ((ratio_Round.f k t239 t240).bind fun bt245 => ((ratio_Text.f k t239 t240).bind fun bt247 => (if (t239 == (-3) && (t240 == 2)) = true then (if t241 = 0 then (if bt243.1 = (-2) then (if bt243.2 = 0 then (if bt245.1 = (-1) then (if bt245.2 = 0 then (if bt247.1.toList = ([45, 51, 47, 50] : List UInt8) then (some (bt247.2 == 0)) else (none)) else (none)) else (none)) else (none)) else (none)) else (none)) else (none))))) = some r := H
 have A1 := Aside0.mk A10
 clear A10
 replace H := Option.bind_eq_some_iff.mp H
 obtain ⟨⟨t243, t244⟩, A20, H⟩ := H
 replace H : ((ratio_Round.f k t239 t240).bind fun bt245 => ((ratio_Text.f k t239 t240).bind fun bt247 => (if (t239 == (-3) && (t240 == 2)) = true then (if t241 = 0 then (if t243 = (-2) then (if t244 = 0 then (if bt245.1 = (-1) then (if bt245.2 = 0 then (if bt247.1.toList = ([45, 51, 47, 50] : List UInt8) then (some (bt247.2 == 0)) else (none)) else (none)) else (none)) else (none)) else (none)) else (none)) else (none)))) = some r := H
 have A2 := Aside0.mk A20
 clear A20
 replace H := Option.bind_eq_some_iff.mp H
 obtain ⟨⟨t245, t246⟩, A30, H⟩ := H
 replace H : ((ratio_Text.f k t239 t240).bind fun bt247 => (if (t239 == (-3) && (t240 == 2)) = true then (if t241 = 0 then (if t243 = (-2) then (if t244 = 0 then (if t245 = (-1) then (if t246 = 0 then (if bt247.1.toList = ([45, 51, 47, 50] : List UInt8) then (some (bt247.2 == 0)) else (none)) else (none)) else (none)) else (none)) else (none)) else (none)) else (none))) = some r := H
 have A3 := Aside0.mk A30
 clear A30
 replace H := Option.bind_eq_some_iff.mp H
 obtain ⟨⟨t247, t248⟩, A40, H⟩ := H
 replace H : (if (t239 == (-3) && (t240 == 2)) = true then (if t241 = 0 then (if t243 = (-2) then (if t244 = 0 then (if t245 = (-1) then (if t246 = 0 then (if t247.toList = ([45, 51, 47, 50] : List UInt8) then (some (t248 == 0)) else (none)) else (none)) else (none)) else (none)) else (none)) else (none)) else (none)) = some r := H
 have A4 := Aside0.mk A40
 clear A40
 by_cases c5 : (t239 == (-3) && (t240 == 2)) = true
 ·rw [if_pos c5] at H
  have c5b0 : (t239 == (-3) && (t240 == 2)) = true := c5
  (try (have c5b1 : decide (t239 = (-3) && (t240 == 2)) = true := by simpa using c5))
  (try (have c5b2 : (t239 == (-3) && (t240 == 2)) = true := by simpa using c5))
  clear c5
  by_cases c6 : t241 = 0
  ·rw [if_pos c6] at H
   have c6b0 : (t241 == 0) = true := beq_iff_eq.mpr c6
   have c6b1 : (t241 != 0) = false := bne_eq_false_iff_eq.mpr c6
   clear c6
   by_cases c7 : t243 = (-2)
   ·rw [if_pos c7] at H
    have c7b0 : (t243 == (-2)) = true := beq_iff_eq.mpr c7
    have c7b1 : (t243 != (-2)) = false := bne_eq_false_iff_eq.mpr c7
    clear c7
    by_cases c8 : t244 = 0
    ·rw [if_pos c8] at H
     have c8b0 : (t244 == 0) = true := beq_iff_eq.mpr c8
     have c8b1 : (t244 != 0) = false := bne_eq_false_iff_eq.mpr c8
     clear c8
     by_cases c9 : t245 = (-1)
     ·rw [if_pos c9] at H
      have c9b0 : (t245 == (-1)) = true := beq_iff_eq.mpr c9
      have c9b1 : (t245 != (-1)) = false := bne_eq_false_iff_eq.mpr c9
      clear c9
      by_cases c10 : t246 = 0
      ·rw [if_pos c10] at H
       have c10b0 : (t246 == 0) = true := beq_iff_eq.mpr c10
       have c10b1 : (t246 != 0) = false := bne_eq_false_iff_eq.mpr c10
       clear c10
       by_cases c11 : t247.toList = ([45, 51, 47, 50] : List UInt8)
       ·rw [if_pos c11] at H
        have c11b0 : (t247.toList == ([45, 51, 47, 50] : List UInt8)) = true := beq_iff_eq.mpr c11
        have c11b1 : (t247.toList != ([45, 51, 47, 50] : List UInt8)) = false := bne_eq_false_iff_eq.mpr c11
        clear c11
        obtain rfl := Option.some.inj H
        go_enter Tryd.func6, Tryd.ntmps6
        go_wp2_with (first | ((with_reducible refine gate_callee (f := 7) rfl ?_); refine goesL_ (some 10) rfl rfl Tryd.func7 (by kernel_rfl) rfl #[.int .i64 6, .int .i64 (-4)] rfl gm_ ?_; (with_reducible refine (ratio_New.calls k 6 (-4) t239 t240 t241 _ ?side1 A1.out).mono ?_); (case side1 => exact Glob.step hG (bl HB)); rintro e w12 ⟨rfl, hb⟩; refine ⟨_, rfl, ?_⟩; replace HB := Aside0.mk (below_step (bl HB) hb); (try clear hb); (try clear hb2); (try clear hk); (try clear hi)) | ((with_reducible refine gate_dst (N := 1) rfl ?_); refine box_event ?hg (N := 1) ?hd (cs := #[.int .i64 0, .int .i64 0]) (t := 24) ?hr ?_; (case hd => rfl); (case hg => rfl); (case hr => exact gs_); intro gb242 hg w13 hbox hb; have BK242 := Aside0.mk (hbox); have GW242 := Aside0.mk ((by rw [hg]; exact (below_size (bl HB)) : w.heap.size ≤ gb242)); have GE242 := Aside0.mk ((by rw [hg]; exact (below_size (bl HB)) : w.heap.size ≤ gb242)); replace HB := Aside0.mk (below_step (bl HB) hb); clear hb hbox hg; have hcz14_0 := ck BK242 0; have hcz14_1 := ck BK242 1; have hfz14_0 := blk_frozen BK242.out 0; have hfz14_1 := blk_frozen BK242.out 1) | ((with_reducible refine gate_callee (f := 13) rfl ?_); refine goesL_ (some 15) rfl rfl Tryd.func13 (by kernel_rfl) rfl #[.agg #[.int .i64 t239, .int .i64 t240]] rfl gm_ ?_; (with_reducible refine (ratio_Floor.calls k t239 t240 t243 t244 _ ?side1 A2.out).mono ?_); (case side1 => exact Glob.step hG (bl HB)); rintro e w15 ⟨rfl, hb⟩; refine ⟨_, rfl, ?_⟩; replace BK242 := Aside0.mk (blk_below (g := gb242) (o := .cells #[.int .i64 t239, .int .i64 t240] 24 (0, 0)) (by (with_reducible repeat (first | refine blk_drewN ?_ _ | refine blk_drew ?_ | refine blk_alloc ?_ _)); refine blk_put (cs := #[.int .i64 t239, .int .i64 0]) ?_ 1 _ rfl; (with_reducible repeat (first | refine blk_drewN ?_ _ | refine blk_drew ?_ | refine blk_alloc ?_ _)); refine blk_put (cs := #[.int .i64 0, .int .i64 0]) ?_ 0 _ rfl; (with_reducible repeat (first | refine blk_drewN ?_ _ | refine blk_drew ?_ | refine blk_alloc ?_ _)); exact BK242.out) hb); replace HB := Aside0.mk (below_step (bl HB) hb); (try clear hb); (try clear hb2); (try clear hk); (try clear hi); have hcz16_0 := ck BK242 0; have hcz16_1 := ck BK242 1; have hfz16_0 := blk_frozen BK242.out 0; have hfz16_1 := blk_frozen BK242.out 1) | ((with_reducible refine gate_callee (f := 14) rfl ?_); refine goesL_ (some 20) rfl rfl Tryd.func14 (by kernel_rfl) rfl #[.agg #[.int .i64 t239, .int .i64 t240]] rfl gm_ ?_; (with_reducible refine (ratio_Round.calls k t239 t240 t245 t246 _ ?side1 A3.out).mono ?_); (case side1 => exact Glob.step hG (bl HB)); rintro e w17 ⟨rfl, hb⟩; refine ⟨_, rfl, ?_⟩; replace BK242 := Aside0.mk (blk_below (kb BK242) hb); replace HB := Aside0.mk (below_step (bl HB) hb); (try clear hb); (try clear hb2); (try clear hk); (try clear hi); have hcz18_0 := ck BK242 0; have hcz18_1 := ck BK242 1; have hfz18_0 := blk_frozen BK242.out 0; have hfz18_1 := blk_frozen BK242.out 1) | ((with_reducible refine gate_callee (f := 25) rfl ?_); refine goesL_ (some 25) rfl rfl Tryd.func25 (by kernel_rfl) rfl #[.agg #[.int .i64 t239, .int .i64 t240]] rfl gm_ ?_; (with_reducible refine (ratio_Text.calls k t239 t240 t247 t248 _ ?side1 A4.out).mono ?_); (case side1 => exact Glob.step hG (bl HB)); rintro e w19 ⟨rfl, hb⟩; refine ⟨_, rfl, ?_⟩; replace BK242 := Aside0.mk (blk_below (kb BK242) hb); replace HB := Aside0.mk (below_step (bl HB) hb); (try clear hb); (try clear hb2); (try clear hk); (try clear hi); have hcz20_0 := ck BK242 0; have hcz20_1 := ck BK242 1; have hfz20_0 := blk_frozen BK242.out 0; have hfz20_1 := blk_frozen BK242.out 1))
        go_ret
        exact ⟨by first | rfl | (simp [errW_none, errW_some] <;> rfl) | (simp [*, errW_none, errW_some] <;> rfl), bl HB⟩
       ·rw [if_neg c11] at H
        exact absurd H (by simp)
      ·rw [if_neg c10] at H
       exact absurd H (by simp)
     ·rw [if_neg c9] at H
      exact absurd H (by simp)
    ·rw [if_neg c8] at H
     exact absurd H (by simp)
   ·rw [if_neg c7] at H
    exact absurd H (by simp)
  ·rw [if_neg c6] at H
   exact absurd H (by simp)
 ·rw [if_neg c5] at H
  exact absurd H (by simp)

/-! ### pochoirref03_common: function 28 -/
def pochoirref03_common.l0 : Nat → Int → Int → Option (Int)
 | 0, _, _ => none
 | k + 1, x0, x1 => if x1 > 0 then (if x1 = 0 then (none) else (pochoirref03_common.l0 k x1 (Int.tmod x0 x1))) else (some x0)
def pochoirref03_common.f (k : Nat) (a0 : Int) (a1 : Int) : Option (Int) := pochoirref03_common.l0 k a0 a1
theorem pochoirref03_common.mono_l : ∀ k, (∀ y0 y1, LeO (pochoirref03_common.l0 k y0 y1) (pochoirref03_common.l0 (k + 1) y0 y1))
 | 0 => fun _ _ r h => by simp [pochoirref03_common.l0] at h
 | k + 1 => by
  have ih0 := pochoirref03_common.mono_l k
  ·intro y0 y1
   unfold pochoirref03_common.l0
   repeat' first
   | (with_reducible exact ih0 _ _)
   | (with_reducible exact LeO.refl _)
   | (with_reducible exact LeO.none _)
   | (with_reducible refine LeO.ite ?_ ?_)
   | (with_reducible refine LeO.bind ?_ (fun _ => ?_))
   | exact ih0 _ _
   | exact LeO.none _
   | refine LeO.ite ?_ ?_
   | refine LeO.bind ?_ (fun _ => ?_)
theorem pochoirref03_common.mono : ∀ a0 a1 k, LeO (pochoirref03_common.f k a0 a1) (pochoirref03_common.f (k + 1) a0 a1) := by
 intro a0 a1 k
 have ih0 := pochoirref03_common.mono_l k
 unfold pochoirref03_common.f
 repeat' first
   | (with_reducible exact ih0 _ _)
   | (with_reducible exact LeO.refl _)
   | (with_reducible exact LeO.none _)
   | (with_reducible refine LeO.ite ?_ ?_)
   | (with_reducible refine LeO.bind ?_ (fun _ => ?_))
   | exact ih0 _ _
   | exact LeO.none _
   | refine LeO.ite ?_ ?_
   | refine LeO.bind ?_ (fun _ => ?_)
set_option maxHeartbeats 8000000 in
set_option maxRecDepth 100000 in
theorem pochoirref03_common.calls (k : Nat) (a0 : Int) (a1 : Int) (r : Int) (w : World) (h : pochoirref03_common.f k a0 a1 = some r) :
  Calls Tryd.prog 28 #[.int .u64 a0, .int .u64 a1] w fun e w' => e = .returned (.int .u64 r) ∧ Drawn0 w w' := by
 have H : (pochoirref03_common.l0 k a0 a1) = some r := h
 clear h
 have H' := Aside0.mk H
 clear H
 go_enter Tryd.func28, Tryd.ntmps28
 go_wp2
 go_loopg [0, 1] k (fun kq v0 v1 w' => ∃ (x0_1 : Int) (x1_1 : Int), v0 = .int .u64 x0_1 ∧ v1 = .int .u64 x1_1 ∧ Aside0 (pochoirref03_common.l0 kq x0_1 x1_1 = some r) ∧ Aside0 (kq ≤ k) ∧ Drawn0 w w')
 case atStart => exact ⟨(a0), (a1), (by first | rfl | (simp; done) | (simp [*]; done)), (by first | rfl | (simp; done) | (simp [*]; done)), H', ⟨Nat.le_refl _⟩, by repeat (first | exact Drawn0.refl _ | apply Drawn0.step)⟩
 case round =>
  clear H'
  try clear c2
  try clear p2
  obtain ⟨x0_1, x1_1, rfl, rfl, HA, HK1, ⟨m1, rfl⟩⟩ := hrel
  cases gk with
  | zero => exact absurd HA.out (by simp [pochoirref03_common.l0])
  | succ k1 =>
   have H := HA.out
   clear HA
   simp only [pochoirref03_common.l0] at H
   by_cases c3 : x1_1 > 0
   ·rw [if_pos c3] at H
    have c3b0 : decide (0 < x1_1) = true := decide_eq_true c3
    clear c3
    by_cases c4 : x1_1 = 0
    ·rw [if_pos c4] at H
     exact absurd H (by simp)
    ·rw [if_neg c4] at H
     have c4b0 : (x1_1 == 0) = false := beq_eq_false_iff_ne.mpr c4
     have c4b1 : (x1_1 != 0) = true := bne_iff_ne.mpr c4
     have H' := Aside0.mk H
     clear H
     go_wp2
     go_roundg k1
     case measure => have := HK1.out; omega
     case rel => exact ⟨(x1_1), (Int.tmod x0_1 x1_1), (by first | rfl | (simp; done) | (simp [*]; done)), (by first | rfl | (simp; done) | (simp [*]; done)), H', ⟨by have := HK1.out; omega⟩, by repeat (first | exact Drawn0.refl _ | apply Drawn0.step)⟩
   ·rw [if_neg c3] at H
    have c3b0 : decide (0 < x1_1) = false := decide_eq_false c3
    clear c3
    obtain rfl := Option.some.inj H
    go_wp2
    go_ret
    exact ⟨by first | rfl | (simp; done) | (simp [*]; done), by repeat (first | exact Drawn0.refl _ | apply Drawn0.step)⟩

/-! ### pochoirref03_size: function 29 -/
def pochoirref03_size.f (a0 : Int) : Option (Int) := if a0 < 0 then (some (IntKind.u64.wrap (-(IntKind.u64.wrap (a0))))) else (some (IntKind.u64.wrap (a0)))
set_option maxHeartbeats 8000000 in
set_option maxRecDepth 100000 in
theorem pochoirref03_size.calls (a0 : Int) (r : Int) (w : World) (h : pochoirref03_size.f a0 = some r) :
  Calls Tryd.prog 29 #[.int .i64 a0] w fun e w' => e = .returned (.int .u64 r) ∧ Drawn0 w w' := by
 have H : (if a0 < 0 then (some (IntKind.u64.wrap (-(IntKind.u64.wrap (a0))))) else (some (IntKind.u64.wrap (a0)))) = some r := h
 clear h
 by_cases c2 : a0 < 0
 ·rw [if_pos c2] at H
  have c2b0 : decide (a0 < 0) = true := decide_eq_true c2
  clear c2
  obtain rfl := Option.some.inj H
  go_enter Tryd.func29, Tryd.ntmps29
  go_wp2
  go_ret
  exact ⟨by first | rfl | (simp; done) | (simp [*]; done), by repeat (first | exact Drawn0.refl _ | apply Drawn0.step)⟩
 ·rw [if_neg c2] at H
  have c2b0 : decide (a0 < 0) = false := decide_eq_false c2
  clear c2
  obtain rfl := Option.some.inj H
  go_enter Tryd.func29, Tryd.ntmps29
  go_wp2
  go_ret
  exact ⟨by first | rfl | (simp; done) | (simp [*]; done), by repeat (first | exact Drawn0.refl _ | apply Drawn0.step)⟩

/-! ### pochoirref03_signed: function 30 -/
def pochoirref03_signed.f (a0 : Bool) (a1 : Int) : Option (Int × Bool) := if a0 = true then (some (wrap64 (IntKind.u64.wrap (-a1)), decide (a1 ≤ 9223372036854775808))) else (some (wrap64 (a1), decide (a1 < 9223372036854775808)))
set_option maxHeartbeats 8000000 in
set_option maxRecDepth 100000 in
theorem pochoirref03_signed.calls (a0 : Bool) (a1 : Int) (r1 : Int) (r2 : Bool) (w : World) (h : pochoirref03_signed.f a0 a1 = some (r1, r2)) :
  Calls Tryd.prog 30 #[.bool a0, .int .u64 a1] w fun e w' => e = .returned (.tuple #[.int .i64 r1, .bool r2]) ∧ Drawn0 w w' := by
 have H : (if a0 = true then (some (wrap64 (IntKind.u64.wrap (-a1)), decide (a1 ≤ 9223372036854775808))) else (some (wrap64 (a1), decide (a1 < 9223372036854775808)))) = some (r1, r2) := h
 clear h
 by_cases c3 : a0 = true
 ·subst c3
  have H1 : (some (wrap64 (IntKind.u64.wrap (-a1)), decide (a1 ≤ 9223372036854775808))) = some (r1, r2) := by rw [if_pos rfl] at H; exact H
  clear H
  have H := H1
  clear H1
  simp only [Option.some.injEq, Prod.mk.injEq] at H
  obtain ⟨rfl, rfl⟩ := H
  go_enter Tryd.func30, Tryd.ntmps30
  go_wp2
  go_ret2
  exact ⟨by first | rfl | (simp; done) | (simp [*]; done), by repeat (first | exact Drawn0.refl _ | apply Drawn0.step)⟩
 ·replace c3 := Bool.eq_false_iff.mpr c3
  subst c3
  have H1 : (some (wrap64 (a1), decide (a1 < 9223372036854775808))) = some (r1, r2) := by rw [if_neg (show ¬ (false = true) by decide)] at H; exact H
  clear H
  have H := H1
  clear H1
  simp only [Option.some.injEq, Prod.mk.injEq] at H
  obtain ⟨rfl, rfl⟩ := H
  go_enter Tryd.func30, Tryd.ntmps30
  go_wp2
  go_ret2
  exact ⟨by first | rfl | (simp; done) | (simp [*]; done), by repeat (first | exact Drawn0.refl _ | apply Drawn0.step)⟩

/-! ### pochoirref03_New: function 8 -/
def pochoirref03_New.j0 : Nat → Int → Int → Int → Bool → Option (Int × Int × Int)
 | 0, _, _, _, _ => none
 | k + 1, x1, x6, x7, x8 => (pochoirref03_size.f x1).bind fun t259 => (if x6 = 0 then (none) else ((pochoirref03_signed.f false (IntKind.u64.wrap (Int.tdiv t259 x6))).bind fun bt260 => (if x8 = true then (if bt260.2 = true then (some (x7, bt260.1, 0)) else (some (0, 0, 2))) else (some (0, 0, 2)))))
def pochoirref03_New.f (k : Nat) (a0 : Int) (a1 : Int) : Option (Int × Int × Int) := if a1 = 0 then (some (0, 0, 13)) else ((pochoirref03_size.f a0).bind fun t250 => ((pochoirref03_size.f a1).bind fun t251 => ((pochoirref03_common.f k t250 t251).bind fun t252 => (if ((decide (a0 < 0)) != (decide (a1 < 0))) = true then ((pochoirref03_size.f a0).bind fun t253 => (if t252 = 0 then (none) else ((pochoirref03_signed.f (a0 != 0) (IntKind.u64.wrap (Int.tdiv t253 t252))).bind fun bt254 => (pochoirref03_New.j0 k a1 t252 bt254.1 bt254.2)))) else ((pochoirref03_size.f a0).bind fun t256 => (if t252 = 0 then (none) else ((pochoirref03_signed.f false (IntKind.u64.wrap (Int.tdiv t256 t252))).bind fun bt257 => (pochoirref03_New.j0 k a1 t252 bt257.1 bt257.2))))))))
theorem pochoirref03_New.mono_l : ∀ k, (∀ y0 y1 y2 y3, LeO (pochoirref03_New.j0 k y0 y1 y2 y3) (pochoirref03_New.j0 (k + 1) y0 y1 y2 y3))
 | 0 => fun _ _ _ _ r h => by simp [pochoirref03_New.j0] at h
 | k + 1 => by
  have ih0 := pochoirref03_New.mono_l k
  ·intro y0 y1 y2 y3
   unfold pochoirref03_New.j0
   repeat' first
   | (with_reducible exact ih0 _ _ _ _)
   | (with_reducible exact pochoirref03_common.mono _ _ _)
   | (with_reducible exact LeO.refl _)
   | (with_reducible exact LeO.none _)
   | (with_reducible refine LeO.ite ?_ ?_)
   | (with_reducible refine LeO.bind ?_ (fun _ => ?_))
   | exact ih0 _ _ _ _
   | exact pochoirref03_common.mono _ _ _
   | exact LeO.none _
   | refine LeO.ite ?_ ?_
   | refine LeO.bind ?_ (fun _ => ?_)
theorem pochoirref03_New.mono : ∀ a0 a1 k, LeO (pochoirref03_New.f k a0 a1) (pochoirref03_New.f (k + 1) a0 a1) := by
 intro a0 a1 k
 have ih0 := pochoirref03_New.mono_l k
 unfold pochoirref03_New.f
 repeat' first
   | (with_reducible exact ih0 _ _ _ _)
   | (with_reducible exact pochoirref03_common.mono _ _ _)
   | (with_reducible exact LeO.refl _)
   | (with_reducible exact LeO.none _)
   | (with_reducible refine LeO.ite ?_ ?_)
   | (with_reducible refine LeO.bind ?_ (fun _ => ?_))
   | exact ih0 _ _ _ _
   | exact pochoirref03_common.mono _ _ _
   | exact LeO.none _
   | refine LeO.ite ?_ ?_
   | refine LeO.bind ?_ (fun _ => ?_)
set_option maxHeartbeats 8000000 in
set_option maxRecDepth 100000 in
theorem pochoirref03_New.calls (k : Nat) (a0 : Int) (a1 : Int) (r1 : Int) (r2 : Int) (r3 : Int) (w : World) (h : pochoirref03_New.f k a0 a1 = some (r1, r2, r3)) :
  Calls Tryd.prog 8 #[.int .i64 a0, .int .i64 a1] w fun e w' => e = .returned (.tuple #[.agg #[.int .i64 r1, .int .i64 r2], .int .i64 r3]) ∧ Below w.heap.size w w' := by
 have hu24 := Tryd.underlying24
 have HB := Aside0.mk (Below.refl w.heap.size w)
 have H : (if a1 = 0 then (some (0, 0, 13)) else ((pochoirref03_size.f a0).bind fun t250 => ((pochoirref03_size.f a1).bind fun t251 => ((pochoirref03_common.f k t250 t251).bind fun t252 => (if ((decide (a0 < 0)) != (decide (a1 < 0))) = true then ((pochoirref03_size.f a0).bind fun t253 => (if t252 = 0 then (none) else ((pochoirref03_signed.f (a0 != 0) (IntKind.u64.wrap (Int.tdiv t253 t252))).bind fun bt254 => (pochoirref03_New.j0 k a1 t252 bt254.1 bt254.2)))) else ((pochoirref03_size.f a0).bind fun t256 => (if t252 = 0 then (none) else ((pochoirref03_signed.f false (IntKind.u64.wrap (Int.tdiv t256 t252))).bind fun bt257 => (pochoirref03_New.j0 k a1 t252 bt257.1 bt257.2))))))))) = some (r1, r2, r3) := h
 clear h
 by_cases c3 : a1 = 0
 ·rw [if_pos c3] at H
  have c3b0 : (a1 == 0) = true := beq_iff_eq.mpr c3
  have c3b1 : (a1 != 0) = false := bne_eq_false_iff_eq.mpr c3
  clear c3
  simp only [Option.some.injEq, Prod.mk.injEq] at H
  obtain ⟨rfl, rfl, rfl⟩ := H
  go_enter Tryd.func8, Tryd.ntmps8
  go_wp2_with (first | ((with_reducible refine gate_dst (N := 4) rfl ?_); refine box_event ?hg (N := 4) ?hd (cs := #[.int .i64 0, .int .i64 0]) (t := 24) ?hr ?_; (case hd => rfl); (case hg => rfl); (case hr => exact gs_); intro gb249 hg w4 hbox hb; have BK249 := Aside0.mk (hbox); have GW249 := Aside0.mk ((by rw [hg]; exact (below_size (bl HB)) : w.heap.size ≤ gb249)); have GE249 := Aside0.mk ((by rw [hg]; exact (below_size (bl HB)) : w.heap.size ≤ gb249)); replace HB := Aside0.mk (below_step (bl HB) hb); clear hb hbox hg; have hcz5_0 := ck BK249 0; have hcz5_1 := ck BK249 1; have hfz5_0 := blk_frozen BK249.out 0; have hfz5_1 := blk_frozen BK249.out 1))
  refine bodyPost_ret (results_ct rfl _ _ gb249 24 #[.int .i64 0, .int .i64 0] (0, 0) _ rfl (by (with_reducible repeat (first | refine blk_drewN ?_ _ | refine blk_drew ?_ | refine blk_alloc ?_ _)); refine blk_put (cs := #[.int .i64 0, .int .i64 0]) ?_ 1 _ rfl; (with_reducible repeat (first | refine blk_drewN ?_ _ | refine blk_drew ?_ | refine blk_alloc ?_ _)); refine blk_put (cs := #[.int .i64 0, .int .i64 0]) ?_ 0 _ rfl; (with_reducible repeat (first | refine blk_drewN ?_ _ | refine blk_drew ?_ | refine blk_alloc ?_ _)); exact BK249.out) Tryd.underlying24 rfl (by kernel_rfl)) rfl ?_
  exact ⟨by first | rfl | (simp [errW_none, errW_some] <;> rfl) | (simp [*, errW_none, errW_some] <;> rfl), bl HB⟩
 ·rw [if_neg c3] at H
  have c3b0 : (a1 == 0) = false := beq_eq_false_iff_ne.mpr c3
  have c3b1 : (a1 != 0) = true := bne_iff_ne.mpr c3
  replace H := Option.bind_eq_some_iff.mp H
  obtain ⟨t250, A60, H⟩ := H
  replace H : ((pochoirref03_size.f a1).bind fun t251 => ((pochoirref03_common.f k t250 t251).bind fun t252 => (if ((decide (a0 < 0)) != (decide (a1 < 0))) = true then ((pochoirref03_size.f a0).bind fun t253 => (if t252 = 0 then (none) else ((pochoirref03_signed.f (a0 != 0) (IntKind.u64.wrap (Int.tdiv t253 t252))).bind fun bt254 => (pochoirref03_New.j0 k a1 t252 bt254.1 bt254.2)))) else ((pochoirref03_size.f a0).bind fun t256 => (if t252 = 0 then (none) else ((pochoirref03_signed.f false (IntKind.u64.wrap (Int.tdiv t256 t252))).bind fun bt257 => (pochoirref03_New.j0 k a1 t252 bt257.1 bt257.2))))))) = some (r1, r2, r3) := H
  have A6 := Aside0.mk A60
  clear A60
  replace H := Option.bind_eq_some_iff.mp H
  obtain ⟨t251, A70, H⟩ := H
  replace H : ((pochoirref03_common.f k t250 t251).bind fun t252 => (if ((decide (a0 < 0)) != (decide (a1 < 0))) = true then ((pochoirref03_size.f a0).bind fun t253 => (if t252 = 0 then (none) else ((pochoirref03_signed.f (a0 != 0) (IntKind.u64.wrap (Int.tdiv t253 t252))).bind fun bt254 => (pochoirref03_New.j0 k a1 t252 bt254.1 bt254.2)))) else ((pochoirref03_size.f a0).bind fun t256 => (if t252 = 0 then (none) else ((pochoirref03_signed.f false (IntKind.u64.wrap (Int.tdiv t256 t252))).bind fun bt257 => (pochoirref03_New.j0 k a1 t252 bt257.1 bt257.2)))))) = some (r1, r2, r3) := H
  have A7 := Aside0.mk A70
  clear A70
  replace H := Option.bind_eq_some_iff.mp H
  obtain ⟨t252, A80, H⟩ := H
  replace H : (if ((decide (a0 < 0)) != (decide (a1 < 0))) = true then ((pochoirref03_size.f a0).bind fun t253 => (if t252 = 0 then (none) else ((pochoirref03_signed.f (a0 != 0) (IntKind.u64.wrap (Int.tdiv t253 t252))).bind fun bt254 => (pochoirref03_New.j0 k a1 t252 bt254.1 bt254.2)))) else ((pochoirref03_size.f a0).bind fun t256 => (if t252 = 0 then (none) else ((pochoirref03_signed.f false (IntKind.u64.wrap (Int.tdiv t256 t252))).bind fun bt257 => (pochoirref03_New.j0 k a1 t252 bt257.1 bt257.2))))) = some (r1, r2, r3) := H
  have A8 := Aside0.mk A80
  clear A80
  have HC9 := Aside0.mk H
  clear H
  go_enter Tryd.func8, Tryd.ntmps8
  go_upto_region 4 with (first | ((with_reducible refine gate_dst (N := 4) rfl ?_); refine box_event ?hg (N := 4) ?hd (cs := #[.int .i64 0, .int .i64 0]) (t := 24) ?hr ?_; (case hd => rfl); (case hg => rfl); (case hr => exact gs_); intro gb249 hg w10 hbox hb; have BK249 := Aside0.mk (hbox); have GW249 := Aside0.mk ((by rw [hg]; exact (below_size (bl HB)) : w.heap.size ≤ gb249)); have GE249 := Aside0.mk ((by rw [hg]; exact (below_size (bl HB)) : w.heap.size ≤ gb249)); replace HB := Aside0.mk (below_step (bl HB) hb); clear hb hbox hg) | ((with_reducible refine gate_callee (f := 29) rfl ?_); refine goesL_ (some 15) rfl rfl Tryd.func29 (by kernel_rfl) rfl #[.int .i64 a0] rfl gm_ ?_; (with_reducible refine (pochoirref03_size.calls a0 t250 _ A6.out).mono ?_); rintro e w' ⟨rfl, ⟨nd, rfl⟩⟩; refine ⟨_, rfl, ?_⟩) | ((with_reducible refine gate_callee (f := 29) rfl ?_); refine goesL_ (some 17) rfl rfl Tryd.func29 (by kernel_rfl) rfl #[.int .i64 a1] rfl gm_ ?_; (with_reducible refine (pochoirref03_size.calls a1 t251 _ A7.out).mono ?_); rintro e w' ⟨rfl, ⟨nd, rfl⟩⟩; refine ⟨_, rfl, ?_⟩) | ((with_reducible refine gate_callee (f := 28) rfl ?_); refine goesL_ (some 18) rfl rfl Tryd.func28 (by kernel_rfl) rfl #[.int .u64 t250, .int .u64 t251] rfl gm_ ?_; (with_reducible refine (pochoirref03_common.calls k t250 t251 t252 _ A8.out).mono ?_); rintro e w' ⟨rfl, ⟨nd, rfl⟩⟩; refine ⟨_, rfl, ?_⟩))
  (try simp only [Act.put, List.setIfInBounds_toArray, List.set_cons_zero, List.set_cons_succ])
  go_cut [7, 8] (fun v7 v8 wc => ∃ (kq : Nat) (x7_8 : Int) (x8_8 : Bool), v7 = .int .i64 x7_8 ∧ v8 = .bool x8_8 ∧ Aside0 (pochoirref03_New.j0 kq a1 t252 x7_8 x8_8 = some (r1, r2, r3)) ∧ Aside0 (kq ≤ k) ∧ Aside0 (wc.heap[gb249]? = some (.cells #[.int .i64 0, .int .i64 0] 24 (0, 0))) ∧ Aside0 (Below w.heap.size w wc))
  case first =>
   have H := HC9.out
   clear HC9
   by_cases c11 : ((decide (a0 < 0)) != (decide (a1 < 0))) = true
   ·rw [if_pos c11] at H
    have c11b0 : ((decide (a0 < 0)) != (decide (a1 < 0))) = true := c11
    (try (have c11b1 : decide ((decide (a0 < 0)) = (decide (a1 < 0))) = false := by simpa using c11))
    (try (have c11b2 : ((decide (a0 < 0)) == (decide (a1 < 0))) = false := by simpa using c11))
    (try (have c11b3 : ¬ ((decide (a0 < 0)) = (decide (a1 < 0))) := by simpa using c11))
    clear c11
    (first | rw [c11b0] | (simp only [i64_w, i32_w]; rw [c11b0]) | skip)
    replace H := Option.bind_eq_some_iff.mp H
    obtain ⟨t253, A120, H⟩ := H
    replace H : (if t252 = 0 then (none) else ((pochoirref03_signed.f (a0 != 0) (IntKind.u64.wrap (Int.tdiv t253 t252))).bind fun bt254 => (pochoirref03_New.j0 k a1 t252 bt254.1 bt254.2))) = some (r1, r2, r3) := H
    have A12 := Aside0.mk A120
    clear A120
    by_cases c13 : t252 = 0
    ·rw [if_pos c13] at H
     exact absurd H (by simp)
    ·rw [if_neg c13] at H
     have c13b0 : (t252 == 0) = false := beq_eq_false_iff_ne.mpr c13
     have c13b1 : (t252 != 0) = true := bne_iff_ne.mpr c13
     replace H := Option.bind_eq_some_iff.mp H
     obtain ⟨⟨t254, t255⟩, A140, H⟩ := H
     replace H : (pochoirref03_New.j0 k a1 t252 t254 t255) = some (r1, r2, r3) := H
     have A14 := Aside0.mk A140
     clear A140
     have H' := Aside0.mk H
     clear H
     go_wp2_with (first | ((with_reducible refine gate_callee (f := 29) rfl ?_); refine goesL_ (some 30) rfl rfl Tryd.func29 (by kernel_rfl) rfl #[.int .i64 a0] rfl gm_ ?_; (with_reducible refine (pochoirref03_size.calls a0 t253 _ A12.out).mono ?_); rintro e w' ⟨rfl, ⟨nd, rfl⟩⟩; refine ⟨_, rfl, ?_⟩) | ((with_reducible refine gate_callee (f := 30) rfl ?_); refine goesL_ (some 33) rfl rfl Tryd.func30 (by kernel_rfl) rfl #[.bool (a0 != 0), .int .u64 (IntKind.u64.wrap (Int.tdiv t253 t252))] rfl gm_ ?_; (with_reducible refine (pochoirref03_signed.calls (a0 != 0) (IntKind.u64.wrap (Int.tdiv t253 t252)) t254 t255 _ A14.out).mono ?_); rintro e w' ⟨rfl, ⟨nd, rfl⟩⟩; refine ⟨_, rfl, ?_⟩))
     go_meet
     case rel => exact ⟨_, (t254), (t255), (by first | rfl | (simp; done) | (simp [*]; done)), (by first | rfl | (simp; done) | (simp [*]; done)), H', ⟨by first | omega | exact Nat.le_refl _⟩, ⟨kb BK249⟩, ⟨bl HB⟩⟩
   ·rw [if_neg c11] at H
    have c11b0 : ((decide (a0 < 0)) != (decide (a1 < 0))) = false := by simpa using c11
    (try (have c11b1 : decide ((decide (a0 < 0)) = (decide (a1 < 0))) = true := by simpa using c11))
    (try (have c11b2 : ((decide (a0 < 0)) == (decide (a1 < 0))) = true := by simpa using c11))
    clear c11
    (first | rw [c11b0] | (simp only [i64_w, i32_w]; rw [c11b0]) | skip)
    replace H := Option.bind_eq_some_iff.mp H
    obtain ⟨t256, A150, H⟩ := H
    replace H : (if t252 = 0 then (none) else ((pochoirref03_signed.f false (IntKind.u64.wrap (Int.tdiv t256 t252))).bind fun bt257 => (pochoirref03_New.j0 k a1 t252 bt257.1 bt257.2))) = some (r1, r2, r3) := H
    have A15 := Aside0.mk A150
    clear A150
    by_cases c16 : t252 = 0
    ·rw [if_pos c16] at H
     exact absurd H (by simp)
    ·rw [if_neg c16] at H
     have c16b0 : (t252 == 0) = false := beq_eq_false_iff_ne.mpr c16
     have c16b1 : (t252 != 0) = true := bne_iff_ne.mpr c16
     replace H := Option.bind_eq_some_iff.mp H
     obtain ⟨⟨t257, t258⟩, A170, H⟩ := H
     replace H : (pochoirref03_New.j0 k a1 t252 t257 t258) = some (r1, r2, r3) := H
     have A17 := Aside0.mk A170
     clear A170
     have H' := Aside0.mk H
     clear H
     go_wp2_with (first | ((with_reducible refine gate_callee (f := 29) rfl ?_); refine goesL_ (some 30) rfl rfl Tryd.func29 (by kernel_rfl) rfl #[.int .i64 a0] rfl gm_ ?_; (with_reducible refine (pochoirref03_size.calls a0 t256 _ A15.out).mono ?_); rintro e w' ⟨rfl, ⟨nd, rfl⟩⟩; refine ⟨_, rfl, ?_⟩) | ((with_reducible refine gate_callee (f := 30) rfl ?_); refine goesL_ (some 33) rfl rfl Tryd.func30 (by kernel_rfl) rfl #[.bool false, .int .u64 (IntKind.u64.wrap (Int.tdiv t256 t252))] rfl gm_ ?_; (with_reducible refine (pochoirref03_signed.calls false (IntKind.u64.wrap (Int.tdiv t256 t252)) t257 t258 _ A17.out).mono ?_); rintro e w' ⟨rfl, ⟨nd, rfl⟩⟩; refine ⟨_, rfl, ?_⟩))
     go_meet
     case rel => exact ⟨_, (t257), (t258), (by first | rfl | (simp; done) | (simp [*]; done)), (by first | rfl | (simp; done) | (simp [*]; done)), H', ⟨by first | omega | exact Nat.le_refl _⟩, ⟨kb BK249⟩, ⟨bl HB⟩⟩
  case rest =>
   clear HC9
   try clear c1
   try clear c2
   try clear p2
   try clear c3
   try clear c3b0
   try clear c3b1
   try clear c8
   try clear c11
   try clear c11b0
   try clear c11b1
   try clear c11b2
   try clear c13
   try clear c13b0
   try clear c13b1
   try clear c16
   try clear c16b0
   try clear c16b1
   try clear hcz5_0
   try clear hcz5_1
   try clear hfz5_0
   try clear hfz5_1
   obtain ⟨kq, x7_8, x8_8, rfl, rfl, HA, HJ8, BK249, HB⟩ := hcut
   cases kq with
   | zero => exact absurd HA.out (by simp [pochoirref03_New.j0])
   | succ kj8 =>
    have H := HA.out
    clear HA
    simp only [pochoirref03_New.j0] at H
    replace H := Option.bind_eq_some_iff.mp H
    obtain ⟨t259, A180, H⟩ := H
    replace H : (if t252 = 0 then (none) else ((pochoirref03_signed.f false (IntKind.u64.wrap (Int.tdiv t259 t252))).bind fun bt260 => (if x8_8 = true then (if bt260.2 = true then (some (x7_8, bt260.1, 0)) else (some (0, 0, 2))) else (some (0, 0, 2))))) = some (r1, r2, r3) := H
    have A18 := Aside0.mk A180
    clear A180
    by_cases c19 : t252 = 0
    ·rw [if_pos c19] at H
     exact absurd H (by simp)
    ·rw [if_neg c19] at H
     have c19b0 : (t252 == 0) = false := beq_eq_false_iff_ne.mpr c19
     have c19b1 : (t252 != 0) = true := bne_iff_ne.mpr c19
     replace H := Option.bind_eq_some_iff.mp H
     obtain ⟨⟨t260, t261⟩, A200, H⟩ := H
     replace H : (if x8_8 = true then (if t261 = true then (some (x7_8, t260, 0)) else (some (0, 0, 2))) else (some (0, 0, 2))) = some (r1, r2, r3) := H
     have A20 := Aside0.mk A200
     clear A200
     by_cases c21 : x8_8 = true
     ·subst c21
      have H1 : (if t261 = true then (some (x7_8, t260, 0)) else (some (0, 0, 2))) = some (r1, r2, r3) := by rw [if_pos rfl] at H; exact H
      clear H
      have H := H1
      clear H1
      by_cases c22 : t261 = true
      ·subst c22
       have H1 : (some (x7_8, t260, 0)) = some (r1, r2, r3) := by rw [if_pos rfl] at H; exact H
       clear H
       have H := H1
       clear H1
       simp only [Option.some.injEq, Prod.mk.injEq] at H
       obtain ⟨rfl, rfl, rfl⟩ := H
       go_wp2_with (first | ((with_reducible refine gate_callee (f := 29) rfl ?_); refine goesL_ (some 38) rfl rfl Tryd.func29 (by kernel_rfl) rfl #[.int .i64 a1] rfl gm_ ?_; (with_reducible refine (pochoirref03_size.calls a1 t259 _ A18.out).mono ?_); rintro e w' ⟨rfl, ⟨nd, rfl⟩⟩; refine ⟨_, rfl, ?_⟩; (try (rw [drewN_self wc]; generalize hq_ : World.drewN wc _ = wc; have n0_ : Aside0 (wc.heap[gb249]? = some (.cells #[.int .i64 0, .int .i64 0] 24 (0, 0))) := ⟨by rw [← hq_]; exact (kb BK249)⟩; have n1_ : Aside0 (Below w.heap.size w wc) := ⟨by rw [← hq_]; exact (bl HB)⟩; clear BK249 HB hq_; have BK249 := n0_; have HB := n1_; clear n0_ n1_))) | ((with_reducible refine gate_callee (f := 30) rfl ?_); refine goesL_ (some 41) rfl rfl Tryd.func30 (by kernel_rfl) rfl #[.bool false, .int .u64 (IntKind.u64.wrap (Int.tdiv t259 t252))] rfl gm_ ?_; (with_reducible refine (pochoirref03_signed.calls false (IntKind.u64.wrap (Int.tdiv t259 t252)) t260 true _ A20.out).mono ?_); rintro e w' ⟨rfl, ⟨nd, rfl⟩⟩; refine ⟨_, rfl, ?_⟩; (try (rw [drewN_self wc]; generalize hq_ : World.drewN wc _ = wc; have n0_ : Aside0 (wc.heap[gb249]? = some (.cells #[.int .i64 0, .int .i64 0] 24 (0, 0))) := ⟨by rw [← hq_]; exact (kb BK249)⟩; have n1_ : Aside0 (Below w.heap.size w wc) := ⟨by rw [← hq_]; exact (bl HB)⟩; clear BK249 HB hq_; have BK249 := n0_; have HB := n1_; clear n0_ n1_)); have hcz23_0 := ck BK249 0; have hcz23_1 := ck BK249 1; have hfz23_0 := blk_frozen BK249.out 0; have hfz23_1 := blk_frozen BK249.out 1))
       refine bodyPost_ret (results_ct rfl _ _ gb249 24 #[.int .i64 x7_8, .int .i64 t260] (0, 0) _ rfl (by (with_reducible repeat (first | refine blk_drewN ?_ _ | refine blk_drew ?_ | refine blk_alloc ?_ _)); refine blk_put (cs := #[.int .i64 x7_8, .int .i64 0]) ?_ 1 _ rfl; (with_reducible repeat (first | refine blk_drewN ?_ _ | refine blk_drew ?_ | refine blk_alloc ?_ _)); refine blk_put (cs := #[.int .i64 0, .int .i64 0]) ?_ 0 _ rfl; (with_reducible repeat (first | refine blk_drewN ?_ _ | refine blk_drew ?_ | refine blk_alloc ?_ _)); exact BK249.out) Tryd.underlying24 rfl (by kernel_rfl)) rfl ?_
       exact ⟨by first | rfl | (simp [errW_none, errW_some] <;> rfl) | (simp [*, errW_none, errW_some] <;> rfl), bl HB⟩
      ·replace c22 := Bool.eq_false_iff.mpr c22
       subst c22
       have H1 : (some (0, 0, 2)) = some (r1, r2, r3) := by rw [if_neg (show ¬ (false = true) by decide)] at H; exact H
       clear H
       have H := H1
       clear H1
       simp only [Option.some.injEq, Prod.mk.injEq] at H
       obtain ⟨rfl, rfl, rfl⟩ := H
       go_wp2_with (first | ((with_reducible refine gate_callee (f := 29) rfl ?_); refine goesL_ (some 38) rfl rfl Tryd.func29 (by kernel_rfl) rfl #[.int .i64 a1] rfl gm_ ?_; (with_reducible refine (pochoirref03_size.calls a1 t259 _ A18.out).mono ?_); rintro e w' ⟨rfl, ⟨nd, rfl⟩⟩; refine ⟨_, rfl, ?_⟩; (try (rw [drewN_self wc]; generalize hq_ : World.drewN wc _ = wc; have n0_ : Aside0 (wc.heap[gb249]? = some (.cells #[.int .i64 0, .int .i64 0] 24 (0, 0))) := ⟨by rw [← hq_]; exact (kb BK249)⟩; have n1_ : Aside0 (Below w.heap.size w wc) := ⟨by rw [← hq_]; exact (bl HB)⟩; clear BK249 HB hq_; have BK249 := n0_; have HB := n1_; clear n0_ n1_))) | ((with_reducible refine gate_callee (f := 30) rfl ?_); refine goesL_ (some 41) rfl rfl Tryd.func30 (by kernel_rfl) rfl #[.bool false, .int .u64 (IntKind.u64.wrap (Int.tdiv t259 t252))] rfl gm_ ?_; (with_reducible refine (pochoirref03_signed.calls false (IntKind.u64.wrap (Int.tdiv t259 t252)) t260 false _ A20.out).mono ?_); rintro e w' ⟨rfl, ⟨nd, rfl⟩⟩; refine ⟨_, rfl, ?_⟩; (try (rw [drewN_self wc]; generalize hq_ : World.drewN wc _ = wc; have n0_ : Aside0 (wc.heap[gb249]? = some (.cells #[.int .i64 0, .int .i64 0] 24 (0, 0))) := ⟨by rw [← hq_]; exact (kb BK249)⟩; have n1_ : Aside0 (Below w.heap.size w wc) := ⟨by rw [← hq_]; exact (bl HB)⟩; clear BK249 HB hq_; have BK249 := n0_; have HB := n1_; clear n0_ n1_)); have hcz24_0 := ck BK249 0; have hcz24_1 := ck BK249 1; have hfz24_0 := blk_frozen BK249.out 0; have hfz24_1 := blk_frozen BK249.out 1))
       refine bodyPost_ret (results_ct rfl _ _ gb249 24 #[.int .i64 0, .int .i64 0] (0, 0) _ rfl (by (with_reducible repeat (first | refine blk_drewN ?_ _ | refine blk_drew ?_ | refine blk_alloc ?_ _)); refine blk_put (cs := #[.int .i64 0, .int .i64 0]) ?_ 1 _ rfl; (with_reducible repeat (first | refine blk_drewN ?_ _ | refine blk_drew ?_ | refine blk_alloc ?_ _)); refine blk_put (cs := #[.int .i64 0, .int .i64 0]) ?_ 0 _ rfl; (with_reducible repeat (first | refine blk_drewN ?_ _ | refine blk_drew ?_ | refine blk_alloc ?_ _)); exact BK249.out) Tryd.underlying24 rfl (by kernel_rfl)) rfl ?_
       exact ⟨by first | rfl | (simp [errW_none, errW_some] <;> rfl) | (simp [*, errW_none, errW_some] <;> rfl), bl HB⟩
     ·replace c21 := Bool.eq_false_iff.mpr c21
      subst c21
      have H1 : (some (0, 0, 2)) = some (r1, r2, r3) := by rw [if_neg (show ¬ (false = true) by decide)] at H; exact H
      clear H
      have H := H1
      clear H1
      simp only [Option.some.injEq, Prod.mk.injEq] at H
      obtain ⟨rfl, rfl, rfl⟩ := H
      go_wp2_with (first | ((with_reducible refine gate_callee (f := 29) rfl ?_); refine goesL_ (some 38) rfl rfl Tryd.func29 (by kernel_rfl) rfl #[.int .i64 a1] rfl gm_ ?_; (with_reducible refine (pochoirref03_size.calls a1 t259 _ A18.out).mono ?_); rintro e w' ⟨rfl, ⟨nd, rfl⟩⟩; refine ⟨_, rfl, ?_⟩; (try (rw [drewN_self wc]; generalize hq_ : World.drewN wc _ = wc; have n0_ : Aside0 (wc.heap[gb249]? = some (.cells #[.int .i64 0, .int .i64 0] 24 (0, 0))) := ⟨by rw [← hq_]; exact (kb BK249)⟩; have n1_ : Aside0 (Below w.heap.size w wc) := ⟨by rw [← hq_]; exact (bl HB)⟩; clear BK249 HB hq_; have BK249 := n0_; have HB := n1_; clear n0_ n1_))) | ((with_reducible refine gate_callee (f := 30) rfl ?_); refine goesL_ (some 41) rfl rfl Tryd.func30 (by kernel_rfl) rfl #[.bool false, .int .u64 (IntKind.u64.wrap (Int.tdiv t259 t252))] rfl gm_ ?_; (with_reducible refine (pochoirref03_signed.calls false (IntKind.u64.wrap (Int.tdiv t259 t252)) t260 t261 _ A20.out).mono ?_); rintro e w' ⟨rfl, ⟨nd, rfl⟩⟩; refine ⟨_, rfl, ?_⟩; (try (rw [drewN_self wc]; generalize hq_ : World.drewN wc _ = wc; have n0_ : Aside0 (wc.heap[gb249]? = some (.cells #[.int .i64 0, .int .i64 0] 24 (0, 0))) := ⟨by rw [← hq_]; exact (kb BK249)⟩; have n1_ : Aside0 (Below w.heap.size w wc) := ⟨by rw [← hq_]; exact (bl HB)⟩; clear BK249 HB hq_; have BK249 := n0_; have HB := n1_; clear n0_ n1_)); have hcz25_0 := ck BK249 0; have hcz25_1 := ck BK249 1; have hfz25_0 := blk_frozen BK249.out 0; have hfz25_1 := blk_frozen BK249.out 1))
      refine bodyPost_ret (results_ct rfl _ _ gb249 24 #[.int .i64 0, .int .i64 0] (0, 0) _ rfl (by (with_reducible repeat (first | refine blk_drewN ?_ _ | refine blk_drew ?_ | refine blk_alloc ?_ _)); refine blk_put (cs := #[.int .i64 0, .int .i64 0]) ?_ 1 _ rfl; (with_reducible repeat (first | refine blk_drewN ?_ _ | refine blk_drew ?_ | refine blk_alloc ?_ _)); refine blk_put (cs := #[.int .i64 0, .int .i64 0]) ?_ 0 _ rfl; (with_reducible repeat (first | refine blk_drewN ?_ _ | refine blk_drew ?_ | refine blk_alloc ?_ _)); exact BK249.out) Tryd.underlying24 rfl (by kernel_rfl)) rfl ?_
      exact ⟨by first | rfl | (simp [errW_none, errW_some] <;> rfl) | (simp [*, errW_none, errW_some] <;> rfl), bl HB⟩

end Go.Proofs.YtglcjhjmncolpaaDoor.Q
