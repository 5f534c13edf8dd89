/- The greatest common divisor of two numbers of 128 bits, as ratio.common finds it. -/
import Derived.Test.YtglcjhjmncolpaaDoorPb
import Derived.Test.YtglcjhjmncolpaaDoorQx5
namespace Go.Proofs.YtglcjhjmncolpaaDoor.Q
open Go.RowKit Go.Proofs.YtglcjhjmncolpaaDoorW.PrintWords Go.Proofs.YtglcjhjmncolpaaDoorW.PrintLast Go.Proofs.YtglcjhjmncolpaaDoorW.PrintMore

theorem bitLen_spec : ∀ x : Nat, x < 18446744073709551616 → x < 2 ^ Lib.bitLen x ∧ (x ≠ 0 → 2 ^ Lib.bitLen x ≤ 2 * x) ∧ Lib.bitLen x ≤ 64 := by
  have key : ∀ f x : Nat, x < 2 ^ f → x < 2 ^ Lib.bitLenAux f x ∧ (x ≠ 0 → 2 ^ Lib.bitLenAux f x ≤ 2 * x) ∧ Lib.bitLenAux f x ≤ f := by
    intro f
    induction f with
    | zero => intro x hx; simp at hx; subst hx; simp [Lib.bitLenAux]
    | succ f ih =>
      intro x hx
      by_cases h0 : x = 0
      · subst h0; simp [Lib.bitLenAux]
      · obtain ⟨h1, h2, h3⟩ := ih (x / 2) (by rw [Nat.pow_succ] at hx; omega)
        have e : Lib.bitLenAux (f + 1) x = 1 + Lib.bitLenAux f (x / 2) := by simp [Lib.bitLenAux, h0]
        rw [e, Nat.add_comm 1, Nat.pow_succ]
        refine ⟨by omega, fun _ => ?_, by omega⟩
        by_cases h4 : x / 2 = 0
        · have hx1 : x = 1 := by omega
          subst hx1
          have : Lib.bitLenAux f (1 / 2) = 0 := by cases f <;> simp [Lib.bitLenAux]
          rw [this]; decide
        · have := h2 h4
          omega
  intro x hx
  exact key 64 x hx

theorem wide_Bits_ok {a : Nat} (ha : a / 18446744073709551616 < 18446744073709551616) : ∃ t : Nat, wide_Bits.f (Hi a) (Lo a) = some (t : Int) ∧ a < 2 ^ t ∧ (a ≠ 0 → 2 ^ t ≤ 2 * a) ∧ t ≤ 128 := by
  unfold wide_Bits.f
  by_cases h : Hi a = 0
  · rw [if_pos h]
    have hlt : a < 18446744073709551616 := by unfold Hi at h; omega
    obtain ⟨h1, h2, h3⟩ := bitLen_spec a hlt
    refine ⟨Lib.bitLen a, ?_, h1, h2, by omega⟩
    rw [Lo_small hlt]
    unfold bits_Len64.f
    rw [if_pos ⟨by omega, by omega⟩]
    simp
  · rw [if_neg h]
    have hne : a / 18446744073709551616 ≠ 0 := by unfold Hi at h; omega
    obtain ⟨h1, h2, h3⟩ := bitLen_spec (a / 18446744073709551616) ha
    refine ⟨64 + Lib.bitLen (a / 18446744073709551616), ?_, ?_, fun _ => ?_, by omega⟩
    · unfold bits_Len64.f
      rw [if_pos (Hi_ok ha)]
      simp only [Option.bind_some]
      have e : (Hi a).toNat = a / 18446744073709551616 := by unfold Hi; omega
      rw [e]
      congr 1
      unfold wrap64
      omega
    · rw [Nat.pow_add, show (2 : Nat) ^ 64 = 18446744073709551616 from by decide]
      have := Nat.div_add_mod a 18446744073709551616
      have h4 : (a / 18446744073709551616 + 1) * 18446744073709551616 ≤ 2 ^ Lib.bitLen (a / 18446744073709551616) * 18446744073709551616 := Nat.mul_le_mul_right _ h1
      rw [Nat.mul_comm 18446744073709551616 (2 ^ _)]
      omega
    · rw [Nat.pow_add, show (2 : Nat) ^ 64 = 18446744073709551616 from by decide]
      have h5 := Nat.mul_le_mul_right 18446744073709551616 (h2 hne)
      rw [Nat.mul_comm 18446744073709551616 (2 ^ _)]
      omega

theorem twos_ok {a : Nat} (h0 : a ≠ 0) (ha : a / 18446744073709551616 < 18446744073709551616) : ∃ t m : Nat, ratio_twos.f (Hi a) (Lo a) = some (t : Int) ∧ a = 2 ^ t * (2 * m + 1) ∧ t < 128 := by
  unfold ratio_twos.f
  by_cases h : Lo a = 0
  · rw [if_pos h]
    have hm : a % 18446744073709551616 = 0 := by unfold Lo at h; omega
    have hne : a / 18446744073709551616 ≠ 0 := by omega
    obtain ⟨m, h1, h2⟩ := Lib.ctzFrom_spec 64 (a / 18446744073709551616) (by omega) ha
    refine ⟨64 + Lib.ctzFrom 64 (a / 18446744073709551616), m, ?_, ?_, by omega⟩
    · unfold bits_TrailingZeros64.f
      rw [if_pos (Hi_ok ha)]
      have e : (Hi a).toNat = a / 18446744073709551616 := by unfold Hi; omega
      have e2 : Lib.ctz 64 (a / 18446744073709551616) = Lib.ctzFrom 64 (a / 18446744073709551616) := by simp [Lib.ctz, hne]
      simp only [Option.bind_some, e, e2]
      congr 1
      unfold wrap64
      omega
    · rw [Nat.pow_add, show (2 : Nat) ^ 64 = 18446744073709551616 from by decide, Nat.mul_assoc, ← h1]
      omega
  · rw [if_neg h]
    have hne : a % 18446744073709551616 ≠ 0 := by unfold Lo at h; omega
    obtain ⟨m, h1, h2⟩ := Lib.ctzFrom_spec 64 (a % 18446744073709551616) (by omega) (Nat.mod_lt _ (by omega))
    have e2 : Lib.ctz 64 (a % 18446744073709551616) = Lib.ctzFrom 64 (a % 18446744073709551616) := by simp [Lib.ctz, hne]
    have e3 : (2 : Nat) ^ Lib.ctzFrom 64 (a % 18446744073709551616) * 2 ^ (64 - Lib.ctzFrom 64 (a % 18446744073709551616)) = 18446744073709551616 := two_split (by omega)
    have e4 : (2 : Nat) ^ (64 - Lib.ctzFrom 64 (a % 18446744073709551616)) = 2 * 2 ^ (63 - Lib.ctzFrom 64 (a % 18446744073709551616)) := by
      rw [show 64 - Lib.ctzFrom 64 (a % 18446744073709551616) = (63 - Lib.ctzFrom 64 (a % 18446744073709551616)) + 1 from by omega, Nat.pow_succ, Nat.mul_comm]
    refine ⟨Lib.ctzFrom 64 (a % 18446744073709551616), m + a / 18446744073709551616 * 2 ^ (63 - Lib.ctzFrom 64 (a % 18446744073709551616)), ?_, ?_, by omega⟩
    · unfold bits_TrailingZeros64.f
      rw [if_pos (Lo_ok a)]
      have e : (Lo a).toNat = a % 18446744073709551616 := by unfold Lo; omega
      simp only [Option.bind_some, e, e2]
    · rw [e4] at e3
      generalize Lib.ctzFrom 64 (a % 18446744073709551616) = t at *
      have hd := Nat.div_add_mod a 18446744073709551616
      rw [h1] at hd
      generalize a / 18446744073709551616 = x at *
      generalize 2 ^ (63 - t) = q at *
      generalize (2 : Nat) ^ t = p at *
      clear e4 h2 hne ha h h1
      rw [← hd, ← e3]
      grind

/-- A shift to the right that leaves something to be told. -/
theorem wide_Shift_neg {a s : Nat} (h0 : a ≠ 0) (ha : a / 18446744073709551616 < 18446744073709551616) (hs : s < 128) :
    Ev (fun k => wide_Shift.f k (Hi a) (Lo a) (-(s : Int))) (Hi (a / 2 ^ s), Lo (a / 2 ^ s), 0) := by
  unfold wide_Shift.f
  refine Ev.neg (by rw [wide_zero]; exact h0) ?_
  refine Ev.step (f := fun k => _) (fun k => by simp only [wide_Shift.j0]; rfl) ?_
  refine Ev.neg (by simp; omega) ?_
  by_cases hz : s = 0
  · subst hz
    refine Ev.neg (by omega) ?_
    obtain ⟨t, h1, h2, h3, h4⟩ := wide_Bits_ok ha
    refine Ev.bindEq h1 ?_
    refine Ev.neg (by unfold wrap64; omega) ?_
    have e : IntKind.u64.wrap (-((0 : Nat) : Int)) = ((0 : Nat) : Int) := by rw [IntKind.wrap_u64]; omega
    rw [e]
    exact Ev.bindEq (wide_left_ok (by simpa using ha) (by omega)) (by simp; exact Ev.now _)
  · refine Ev.pos (by omega) ?_
    have e : IntKind.u64.wrap (wrap64 (-(-(s : Int)))) = (s : Int) := by rw [IntKind.wrap_u64]; unfold wrap64; omega
    rw [e]
    exact Ev.bindEq (wide_right_ok ha (by omega) hs) (Ev.now _)

theorem wide_Shift_zero (n : Int) : Ev (fun k => wide_Shift.f k (Hi 0) (Lo 0) n) (Hi 0, Lo 0, 0) := by
  unfold wide_Shift.f
  refine Ev.pos (by rw [wide_zero]) ?_
  refine Ev.step (f := fun k => _) (fun k => by simp only [wide_Shift.j0]; rfl) ?_
  refine Ev.pos (by simp) ?_
  exact Ev.now _
theorem wide_Shift_pos {a s : Nat} (h0 : a ≠ 0) (ha : a * 2 ^ s / 18446744073709551616 < 18446744073709551616) (hs : s < 128) :
    Ev (fun k => wide_Shift.f k (Hi a) (Lo a) (s : Int)) (Hi (a * 2 ^ s), Lo (a * 2 ^ s), 0) := by
  have hp : 0 < 2 ^ s := Nat.two_pow_pos _
  have ha1 : a / 18446744073709551616 < 18446744073709551616 := Nat.lt_of_le_of_lt (Nat.div_le_div_right (Nat.le_mul_of_pos_right a hp)) ha
  unfold wide_Shift.f
  refine Ev.neg (by rw [wide_zero]; exact h0) ?_
  refine Ev.step (f := fun k => _) (fun k => by simp only [wide_Shift.j0]; rfl) ?_
  refine Ev.neg (by simp; omega) ?_
  refine Ev.neg (by omega) ?_
  obtain ⟨t, h1, h2, h3, h4⟩ := wide_Bits_ok ha1
  refine Ev.bindEq h1 ?_
  have hn : ¬ ((s : Int) > wrap64 (128 - (t : Int))) := by
    intro hc
    have hc2 : 129 ≤ t + s := by unfold wrap64 at hc; omega
    have h5 := Nat.mul_le_mul_right (2 ^ s) (h3 h0)
    rw [← Nat.pow_add] at h5
    have h6 : (2 : Nat) ^ 129 ≤ 2 ^ (t + s) := Nat.pow_le_pow_right (by omega) hc2
    have h7 : (2 : Nat) ^ 129 = 2 * (18446744073709551616 * 18446744073709551616) := by decide
    rw [Nat.mul_assoc] at h5
    omega
  refine Ev.neg hn ?_
  have e : IntKind.u64.wrap (s : Int) = (s : Int) := by rw [IntKind.wrap_u64]; omega
  rw [e]
  exact Ev.bindEq (wide_left_ok ha (by omega)) (Ev.now _)
theorem wide_Shift_over {a s : Nat} (h0 : a ≠ 0) (ha1 : a / 18446744073709551616 < 18446744073709551616) (ha : ¬ a * 2 ^ s / 18446744073709551616 < 18446744073709551616) (hs : s < 128) :
    Ev (fun k => wide_Shift.f k (Hi a) (Lo a) (s : Int)) (0, 0, 2) := by
  unfold wide_Shift.f
  refine Ev.neg (by rw [wide_zero]; exact h0) ?_
  refine Ev.step (f := fun k => _) (fun k => by simp only [wide_Shift.j0]; rfl) ?_
  refine Ev.neg (by simp; omega) ?_
  refine Ev.neg (by omega) ?_
  obtain ⟨t, h1, h2, h3, h4⟩ := wide_Bits_ok ha1
  refine Ev.bindEq h1 ?_
  have hn : (s : Int) > wrap64 (128 - (t : Int)) := by
    have hc2 : 128 < t + s := by
      rcases Nat.lt_or_ge 128 (t + s) with h | h
      · exact h
      · exfalso
        apply ha
        have h5 : a * 2 ^ s < 2 ^ t * 2 ^ s := Nat.mul_lt_mul_of_pos_right h2 (Nat.two_pow_pos _)
        rw [← Nat.pow_add] at h5
        have h6 : (2 : Nat) ^ (t + s) ≤ 2 ^ 128 := Nat.pow_le_pow_right (by omega) h
        have h7 : (2 : Nat) ^ 128 = 18446744073709551616 * 18446744073709551616 := by decide
        apply Nat.div_lt_of_lt_mul
        omega
    unfold wrap64
    omega
  exact Ev.pos hn (Ev.now _)

theorem odd_coprime (t m : Nat) : Nat.Coprime (2 ^ t) (2 * m + 1) := Nat.Coprime.pow_left t (by show Nat.gcd 2 (2 * m + 1) = 1; simp)
theorem gcd_odd_cut {a b t c m : Nat} (ha : a = 2 * m + 1) (hb : b = 2 ^ t * c) : Nat.gcd a b = Nat.gcd a c := by
  subst ha; subst hb
  rw [Nat.gcd_comm, Nat.Coprime.gcd_mul_left_cancel _ (odd_coprime t m), Nat.gcd_comm]

theorem common_loop {s : Nat} (hs : s < 128) : ∀ (d a b : Nat), a + b ≤ d → (∃ m, a = 2 * m + 1) → a / 18446744073709551616 < 18446744073709551616 → b / 18446744073709551616 < 18446744073709551616 →
    Nat.gcd a b * 2 ^ s / 18446744073709551616 < 18446744073709551616 →
    Ev (fun k => ratio_common.l0 k (s : Int) (Hi a) (Lo a) (Hi b) (Lo b)) (Hi (Nat.gcd a b * 2 ^ s), Lo (Nat.gcd a b * 2 ^ s)) := by
  intro d
  induction d with
  | zero => intro a b h1 ⟨m, h2⟩; omega
  | succ d ih =>
    intro a b h1 hodd ha hb hg
    refine Ev.step (f := fun k => _) (fun k => by simp only [ratio_common.l0]; rfl) ?_
    by_cases h0 : b = 0
    · refine Ev.neg (by rw [wide_nonzero]; omega) ?_
      subst h0
      obtain ⟨m, hm⟩ := hodd
      rw [Nat.gcd_zero_right] at hg ⊢
      exact Ev.bind (wide_Shift_pos (by omega) hg hs) (Ev.now _)
    · refine Ev.pos (by rw [wide_nonzero]; exact h0) ?_
      obtain ⟨t, m, h2, h3, h4⟩ := twos_ok h0 hb
      refine Ev.bindEq h2 ?_
      have hp : 0 < 2 ^ t := Nat.two_pow_pos _
      have e1 : wrap64 (-(t : Int)) = -(t : Int) := by unfold wrap64; omega
      rw [e1]
      refine Ev.bind (wide_Shift_neg h0 hb h4) ?_
      have e2 : b / 2 ^ t = 2 * m + 1 := by rw [h3, Nat.mul_div_cancel_left _ hp]
      have hle : b / 2 ^ t ≤ b := Nat.div_le_self _ _
      have hgc : Nat.gcd a b = Nat.gcd a (b / 2 ^ t) := by
        obtain ⟨m2, hm2⟩ := hodd
        exact gcd_odd_cut hm2 (by rw [e2]; exact h3)
      have hc : b / 2 ^ t / 18446744073709551616 < 18446744073709551616 := Nat.lt_of_le_of_lt (Nat.div_le_div_right hle) hb
      rw [hgc] at hg ⊢
      generalize b / 2 ^ t = c at *
      refine Ev.bind (wide_Cmp_ok (a := a) (b := c)) ?_
      obtain ⟨m2, hm2⟩ := hodd
      unfold cmpN
      by_cases hlt : c < a
      · refine Ev.pos (by rw [if_neg (by omega), if_pos hlt]; omega) ?_
        refine Ev.bindEq (wide_Sub_ok (by omega) ha) ?_
        have e3 : Nat.gcd a c = Nat.gcd c (a - c) := by rw [Nat.gcd_comm, Nat.gcd_sub_self_right (by omega)]
        rw [e3] at hg ⊢
        exact ih c (a - c) (by omega) ⟨m, e2⟩ hc (Nat.lt_of_le_of_lt (Nat.div_le_div_right (Nat.sub_le _ _)) ha) hg
      · refine Ev.neg (by rw [if_neg hlt]; split <;> omega) ?_
        refine Ev.bindEq (wide_Sub_ok (by omega) hc) ?_
        have e3 : Nat.gcd a c = Nat.gcd a (c - a) := by rw [Nat.gcd_sub_self_right (by omega)]
        rw [e3] at hg ⊢
        exact ih a (c - a) (by omega) ⟨m2, hm2⟩ ha (Nat.lt_of_le_of_lt (Nat.div_le_div_right (Nat.sub_le _ _)) hc) hg

theorem gcd_twos {x y m n : Nat} : Nat.gcd (2 ^ x * (2 * m + 1)) (2 ^ y * (2 * n + 1)) = Nat.gcd (2 * m + 1) (2 ^ y * (2 * n + 1)) * 2 ^ min x y := by
  have h1 : Nat.gcd (2 * m + 1) (2 ^ y * (2 * n + 1)) = Nat.gcd (2 * m + 1) (2 * n + 1) := gcd_odd_cut rfl rfl
  rw [h1]
  rcases Nat.le_total x y with h | h
  · obtain ⟨d, rfl⟩ := Nat.exists_eq_add_of_le h
    rw [Nat.min_eq_left h, Nat.pow_add, Nat.mul_assoc, Nat.gcd_mul_left, gcd_odd_cut rfl rfl, Nat.mul_comm]
  · obtain ⟨d, rfl⟩ := Nat.exists_eq_add_of_le h
    rw [Nat.min_eq_right h, Nat.pow_add, Nat.mul_assoc, Nat.gcd_mul_left, Nat.gcd_comm, gcd_odd_cut rfl rfl, Nat.mul_comm, Nat.gcd_comm]

/-- ratio.common is the greatest common divisor. -/
theorem ratio_common_ok {a b : Nat} (ha : a / 18446744073709551616 < 18446744073709551616) (hb : b / 18446744073709551616 < 18446744073709551616) :
    Ev (fun k => ratio_common.f k (Hi a) (Lo a) (Hi b) (Lo b)) (Hi (Nat.gcd a b), Lo (Nat.gcd a b)) := by
  unfold ratio_common.f
  by_cases h0 : a = 0
  · refine Ev.pos (by rw [wide_zero]; exact h0) ?_
    subst h0
    rw [Nat.gcd_zero_left]
    exact Ev.now _
  · refine Ev.neg (by rw [wide_zero]; exact h0) ?_
    by_cases h1 : b = 0
    · refine Ev.pos (by rw [wide_zero]; exact h1) ?_
      subst h1
      rw [Nat.gcd_zero_right]
      exact Ev.now _
    · refine Ev.neg (by rw [wide_zero]; exact h1) ?_
      obtain ⟨t, m, h2, h3, h4⟩ := twos_ok h0 ha
      obtain ⟨u, n, h5, h6, h7⟩ := twos_ok h1 hb
      refine Ev.bindEq h2 (Ev.bindEq h5 (Ev.bindEq h2 ?_))
      have e1 : wrap64 (-(t : Int)) = -(t : Int) := by unfold wrap64; omega
      rw [e1]
      refine Ev.bind (wide_Shift_neg h0 ha h4) ?_
      have hp : 0 < 2 ^ t := Nat.two_pow_pos _
      have e2 : a / 2 ^ t = 2 * m + 1 := by rw [h3, Nat.mul_div_cancel_left _ hp]
      have hle : a / 2 ^ t ≤ a := Nat.div_le_self _ _
      have e3 : mn (t : Int) (u : Int) = ((min t u : Nat) : Int) := by unfold mn; split <;> omega
      have e4 : Nat.gcd a b = Nat.gcd (a / 2 ^ t) b * 2 ^ min t u := by
        rw [e2, h3, h6, gcd_twos]
      have hgle : Nat.gcd a b ≤ a := Nat.gcd_le_left _ (by omega)
      have hg : Nat.gcd a b / 18446744073709551616 < 18446744073709551616 := Nat.lt_of_le_of_lt (Nat.div_le_div_right hgle) ha
      rw [e4] at hg ⊢
      rw [e3]
      exact common_loop (by omega) (a / 2 ^ t + b) _ _ (Nat.le_refl _) ⟨m, e2⟩ (Nat.lt_of_le_of_lt (Nat.div_le_div_right hle) ha) hb hg
end Go.Proofs.YtglcjhjmncolpaaDoor.Q
