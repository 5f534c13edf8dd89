/- ratio.lowest: a fraction of two numbers of 128 bits in lowest terms. -/
import Derived.Test.YtglcjhjmncolpaaDoorPd
import Derived.Test.YtglcjhjmncolpaaDoorQx9
namespace Go.Proofs.YtglcjhjmncolpaaDoor.Q
open Go.RowKit Go.Proofs.YtglcjhjmncolpaaDoorW.PrintWords Go.Proofs.YtglcjhjmncolpaaDoorW.PrintLast Go.Proofs.YtglcjhjmncolpaaDoorW.PrintMore

theorem wide_Div_ok {a n : Nat} (ha : a / 18446744073709551616 < 18446744073709551616) (h0 : 0 < n) (hn : n < 18446744073709551616) :
    Ev (fun k => wide_Div.f k (Hi a) (Lo a) (n : Int)) (Hi (a / n), Lo (a / n), ((a % n : Nat) : Int), 0) := by
  unfold wide_Div.f
  refine Ev.neg (by omega) ?_
  have e0 : Int.tmod (Hi a) (n : Int) = ((a / 18446744073709551616 % n : Nat) : Int) := by unfold Hi; rw [tmodN]
  have e1 : Int.tdiv (Hi a) (n : Int) = ((a / 18446744073709551616 / n : Nat) : Int) := by unfold Hi; rw [tdivN]
  have hlt : a / 18446744073709551616 % n < n := Nat.mod_lt _ h0
  have hml : a % 18446744073709551616 < 18446744073709551616 := Nat.mod_lt _ (by omega)
  have hd := bits_Div64_ok hlt hn hml
  rw [e0, e1]
  refine Ev.bind (show Ev (fun k => bits_Div64.f k ((a / 18446744073709551616 % n : Nat) : Int) (Lo a) (n : Int)) _ from hd) ?_
  have h1 := Nat.div_add_mod a 18446744073709551616
  have h2 := Nat.div_add_mod (a / 18446744073709551616) n
  have hq : a / n = a / 18446744073709551616 / n * 18446744073709551616 + (a / 18446744073709551616 % n * 18446744073709551616 + a % 18446744073709551616) / n := by
    have e : a = n * (a / 18446744073709551616 / n * 18446744073709551616) + (a / 18446744073709551616 % n * 18446744073709551616 + a % 18446744073709551616) := by
      generalize a / 18446744073709551616 / n = x at *
      generalize a / 18446744073709551616 % n = y at *
      rw [← Nat.mul_assoc]
      omega
    conv => lhs; rw [e]
    rw [Nat.mul_add_div h0]
  have hr : a % n = (a / 18446744073709551616 % n * 18446744073709551616 + a % 18446744073709551616) % n := by
    have e : a = n * (a / 18446744073709551616 / n * 18446744073709551616) + (a / 18446744073709551616 % n * 18446744073709551616 + a % 18446744073709551616) := by
      generalize a / 18446744073709551616 / n = x at *
      generalize a / 18446744073709551616 % n = y at *
      rw [← Nat.mul_assoc]
      omega
    conv => lhs; rw [e]
    rw [Nat.mul_add_mod]
  have hlo : (a / 18446744073709551616 % n * 18446744073709551616 + a % 18446744073709551616) / n < 18446744073709551616 := by
    apply Nat.div_lt_of_lt_mul
    have := Nat.mul_le_mul_right 18446744073709551616 hlt
    rw [Nat.succ_mul] at this
    omega
  rw [wrapU (Nat.lt_of_le_of_lt (Nat.div_le_self _ _) ha), hr]
  have eH : Hi (a / n) = ((a / 18446744073709551616 / n : Nat) : Int) := by unfold Hi; rw [div_hi]
  have eL : Lo (a / n) = (((a / 18446744073709551616 % n * 18446744073709551616 + a % 18446744073709551616) / n : Nat) : Int) := by
    unfold Lo; rw [hq, Nat.add_comm, Nat.add_mul_mod_self_right, Nat.mod_eq_of_lt hlo]
  rw [eH, eL]
  exact Ev.now _

theorem part_loop {b : Nat} (hb : 18446744073709551616 ≤ b) (hb2 : b / 18446744073709551616 < 18446744073709551616) : ∀ (n a Q : Nat), n ≤ 64 → a / 18446744073709551616 < 18446744073709551616 → a < b * 2 ^ n → (Q + 1) * 2 ^ n ≤ 18446744073709551616 →
    Ev (fun k => ratio_part.l0 k ((n : Int) - 1) (Hi a) (Lo a) (Hi b) (Lo b) 0 ((Q * 2 ^ n : Nat) : Int)) (0, ((Q * 2 ^ n + a / b : Nat) : Int)) := by
  intro n
  induction n with
  | zero =>
    intro a Q _ ha h1 h2
    refine Ev.step (f := fun k => _) (fun k => by simp only [ratio_part.l0]; rfl) ?_
    refine Ev.neg (by omega) ?_
    rw [Nat.div_eq_of_lt (by simpa using h1)]
    exact Ev.now _
  | succ n ih =>
    intro a Q hn ha h1 h2
    have hp : 0 < 2 ^ n := Nat.two_pow_pos _
    have e0 : (((n + 1 : Nat) : Int) - 1) = (n : Int) := by omega
    have ew : wrap64 ((n : Int) - 1) = (n : Int) - 1 := by unfold wrap64; omega
    rw [e0]
    refine Ev.step (f := fun k => _) (fun k => by simp only [ratio_part.l0]; rfl) ?_
    refine Ev.pos (by omega) ?_
    have hQ : (2 * Q + 2) * 2 ^ n = (Q + 1) * 2 ^ (n + 1) := by rw [Nat.pow_succ]; grind
    have hQ2 : 2 * Q * 2 ^ n = Q * 2 ^ (n + 1) := by rw [Nat.pow_succ]; grind
    have hle : (2 * Q + 1) * 2 ^ n ≤ 18446744073709551616 := Nat.le_trans (Nat.mul_le_mul_right _ (show 2 * Q + 1 ≤ 2 * Q + 2 by omega)) (by rw [hQ]; exact h2)
    by_cases hov : b * 2 ^ n / 18446744073709551616 < 18446744073709551616
    · refine Ev.bind (wide_Shift_pos (by omega) hov (by omega)) ?_
      refine Ev.pos rfl ?_
      refine Ev.bind (wide_Cmp_ok (a := a) (b := b * 2 ^ n)) ?_
      unfold cmpN
      by_cases hge : a < b * 2 ^ n
      · refine Ev.neg (by rw [if_pos hge]; omega) ?_
        rw [ew, ← hQ2]
        exact ih a (2 * Q) (by omega) ha hge hle
      · refine Ev.pos (by rw [if_neg hge]; split <;> omega) ?_
        refine Ev.bindEq (wide_Sub_ok (by omega) ha) ?_
        refine Ev.pos (by omega) ?_
        rw [ew]
        have eor : Go.bits .or .u64 ((Q * 2 ^ (n + 1) : Nat) : Int) (shl .u64 1 (n : Int)) = (((2 * Q + 1) * 2 ^ n : Nat) : Int) := by
          rw [show (1 : Int) = ((1 : Nat) : Int) from rfl, shlI (by omega), Nat.one_mul]
          have h64 : (2 : Nat) ^ n < 2 ^ (n + 1) := Nat.pow_lt_pow_right (by omega) (by omega)
          have h65 : (2 : Nat) ^ n < 18446744073709551616 := by
            have : (2 : Nat) ^ n ≤ 2 ^ 63 := Nat.pow_le_pow_right (by omega) (by omega)
            have : (2 : Nat) ^ 63 = 9223372036854775808 := by decide
            omega
          rw [Nat.mod_eq_of_lt h65, or_ok (by omega) h64 ?_]
          · rw [← hQ2, Nat.add_mul, Nat.one_mul]
          · rw [← hQ2]
            have : (2 * Q + 1) * 2 ^ n = 2 * Q * 2 ^ n + 2 ^ n := by rw [Nat.add_mul, Nat.one_mul]
            omega
        rw [eor]
        have hlt : a - b * 2 ^ n < b * 2 ^ n := by
          have : b * 2 ^ (n + 1) = b * 2 ^ n + b * 2 ^ n := by rw [Nat.pow_succ]; grind
          omega
        have hdiv : a / b = 2 ^ n + (a - b * 2 ^ n) / b := by
          have e : a = b * 2 ^ n + (a - b * 2 ^ n) := by omega
          conv => lhs; rw [e]
          rw [Nat.mul_add_div (by omega)]
        have hfin : Q * 2 ^ (n + 1) + a / b = (2 * Q + 1) * 2 ^ n + (a - b * 2 ^ n) / b := by
          rw [hdiv, ← hQ2, Nat.add_mul, Nat.one_mul]; omega
        rw [hfin]
        refine ih (a - b * 2 ^ n) (2 * Q + 1) (by omega) (Nat.lt_of_le_of_lt (Nat.div_le_div_right (Nat.sub_le _ _)) ha) hlt ?_
        rw [show 2 * Q + 1 + 1 = 2 * Q + 2 from rfl, hQ]; exact h2
    · refine Ev.bind (wide_Shift_over (by omega) hb2 hov (by omega)) ?_
      refine Ev.neg (by simp) ?_
      have hge : a < b * 2 ^ n := by
        rcases Nat.lt_or_ge a (b * 2 ^ n) with h | h
        · exact h
        · exact absurd (Nat.lt_of_le_of_lt (Nat.div_le_div_right h) ha) hov
      rw [ew, ← hQ2]
      exact ih a (2 * Q) (by omega) ha hge hle

theorem ratio_part_ok {a b : Nat} (ha : a / 18446744073709551616 < 18446744073709551616) (hb : b / 18446744073709551616 < 18446744073709551616) (h0 : 0 < b) :
    Ev (fun k => ratio_part.f k (Hi a) (Lo a) (Hi b) (Lo b)) (Hi (a / b), Lo (a / b)) := by
  unfold ratio_part.f
  by_cases h : Hi b = 0
  · refine Ev.pos h ?_
    have hlt : b < 18446744073709551616 := by unfold Hi at h; omega
    rw [Lo_small hlt]
    exact Ev.bind (wide_Div_ok ha h0 hlt) (Ev.now _)
  · refine Ev.neg h ?_
    have hge : 18446744073709551616 ≤ b := by unfold Hi at h; omega
    have h64 : (2 : Nat) ^ 64 = 18446744073709551616 := by decide
    have hlt : a < b * 2 ^ 64 := by
      rw [h64]
      have := Nat.mul_le_mul_right 18446744073709551616 hge
      omega
    have hm := part_loop hge hb 64 a 0 (by omega) ha hlt (by rw [h64]; omega)
    have hq : a / b < 18446744073709551616 := by
      apply Nat.div_lt_of_lt_mul
      rw [← h64]; exact hlt
    rw [Hi_small hq, Lo_small hq]
    simpa using hm

/-- A number with its sign, if it fits. -/
def fitsN (neg : Bool) (x : Nat) : Int × Bool :=
  if x < 9223372036854775808 ∨ (x = 9223372036854775808 ∧ neg = true) then (if neg = true then -(x : Int) else x, true) else (0, false)
theorem ratio_fits_ok {neg : Bool} {x : Nat} : Ev (fun k => ratio_fits.f k neg (Hi x) (Lo x)) (fitsN neg x) := by
  have step : ∀ c : Bool, (c = true ↔ ¬ (x < 9223372036854775808 ∨ (x = 9223372036854775808 ∧ neg = true))) → Ev (fun k => ratio_fits.j0 k neg c (Hi x) (Lo x)) (fitsN neg x) := by
    intro c hc
    refine Ev.step (f := fun k => _) (fun k => by simp only [ratio_fits.j0]; rfl) ?_
    by_cases h : c = true
    · refine Ev.pos h ?_
      unfold fitsN
      rw [if_neg (hc.1 h)]
      exact Ev.now _
    · refine Ev.neg h ?_
      have hx : x < 9223372036854775808 ∨ (x = 9223372036854775808 ∧ neg = true) := by
        by_cases h2 : x < 9223372036854775808 ∨ (x = 9223372036854775808 ∧ neg = true)
        · exact h2
        · exact absurd (hc.2 h2) h
      have hxb : x ≤ 9223372036854775808 := by rcases hx with h3 | h3 <;> omega
      unfold fitsN
      rw [if_pos hx, Lo_small (by omega)]
      by_cases hn : neg = true
      · refine Ev.pos hn ?_
        rw [if_pos hn]
        have e : wrap64 (IntKind.u64.wrap (-(x : Int))) = -(x : Int) := by rw [IntKind.wrap_u64]; unfold wrap64; omega
        rw [e]
        exact Ev.now _
      · refine Ev.neg hn ?_
        rw [if_neg hn]
        have e : wrap64 (x : Int) = (x : Int) := by
          have h5 : x < 9223372036854775808 := by
            rcases hx with h3 | ⟨_, h4⟩
            · exact h3
            · exact absurd h4 hn
          unfold wrap64; omega
        rw [e]
        exact Ev.now _
  unfold ratio_fits.f
  by_cases h : Hi x = 0
  · have hlt : x < 18446744073709551616 := by unfold Hi at h; omega
    refine Ev.pos h ?_
    have eL := Lo_small hlt
    by_cases h1 : Lo x > 9223372036854775808
    · refine Ev.pos h1 (step true ⟨fun _ => by rw [eL] at h1; omega, fun _ => rfl⟩)
    · refine Ev.neg h1 ?_
      by_cases h2 : Lo x = 9223372036854775808
      · refine Ev.pos h2 (step _ ?_)
        rw [eL] at h2
        cases neg
        · simp; omega
        · simp; omega
      · refine Ev.neg h2 (step false ⟨fun h3 => (by cases h3), fun h3 => (by rw [eL] at h1 h2; omega)⟩)
  · refine Ev.neg h (step true ⟨fun _ => by unfold Hi at h; omega, fun _ => rfl⟩)

/-- A fraction in lowest terms, or the word that it doesn't fit. -/
def lowestN (neg : Bool) (n d : Nat) : Int × Int × Int :=
  if (fitsN (neg && decide (n ≠ 0)) (n / Nat.gcd n d)).2 = true ∧ (fitsN false (d / Nat.gcd n d)).2 = true then ((fitsN (neg && decide (n ≠ 0)) (n / Nat.gcd n d)).1, (fitsN false (d / Nat.gcd n d)).1, 0) else (0, 0, 2)

theorem ratio_lowest_ok {s t : Bool} {n d : Nat} (hn : n / 18446744073709551616 < 18446744073709551616) (hd : d / 18446744073709551616 < 18446744073709551616) (h0 : 0 < d) :
    Ev (fun k => ratio_lowest.f k s (Hi n) (Lo n) t (Hi d) (Lo d)) (lowestN (s != t) n d) := by
  have hg : 0 < Nat.gcd n d := Nat.gcd_pos_of_pos_right n h0
  have hgd : Nat.gcd n d / 18446744073709551616 < 18446744073709551616 := Nat.lt_of_le_of_lt (Nat.div_le_div_right (Nat.gcd_le_right n h0)) hd
  have ez : (!(Hi (n / Nat.gcd n d) == 0) || (!(Lo (n / Nat.gcd n d) == 0))) = decide (n ≠ 0) := by
    rw [Bool.eq_iff_iff, wide_nonzero, decide_eq_true_iff]
    constructor
    · intro h1 h2; apply h1; rw [h2]; simp
    · intro h1 h2
      have := Nat.div_mul_cancel (Nat.gcd_dvd_left n d)
      rw [h2] at this
      omega
  unfold ratio_lowest.f
  refine Ev.bind (ratio_common_ok hn hd) (Ev.bind (ratio_part_ok hn hgd hg) (Ev.bind (ratio_part_ok hd hgd hg) ?_))
  have fin : ∀ c : Bool, c = ((s != t) && decide (n ≠ 0)) → Ev (fun k => (ratio_fits.f k c (Hi (n / Nat.gcd n d)) (Lo (n / Nat.gcd n d))).bind fun bt => ratio_lowest.j0 k bt.1 bt.2 (Hi (d / Nat.gcd n d)) (Lo (d / Nat.gcd n d))) (lowestN (s != t) n d) := by
    intro c hc
    subst hc
    refine Ev.bind ratio_fits_ok ?_
    refine Ev.step (f := fun k => _) (fun k => by simp only [ratio_lowest.j0]; rfl) ?_
    refine Ev.bind ratio_fits_ok ?_
    unfold lowestN
    by_cases h1 : (fitsN ((s != t) && decide (n ≠ 0)) (n / Nat.gcd n d)).2 = true
    · refine Ev.pos h1 ?_
      by_cases h2 : (fitsN false (d / Nat.gcd n d)).2 = true
      · refine Ev.pos h2 ?_
        rw [if_pos ⟨h1, h2⟩]
        exact Ev.now _
      · refine Ev.neg h2 ?_
        rw [if_neg (fun h3 => h2 h3.2)]
        exact Ev.now _
    · refine Ev.neg h1 ?_
      rw [if_neg (fun h3 => h1 h3.1)]
      exact Ev.now _
  by_cases hst : (s != t) = true
  · refine Ev.pos hst (fin _ ?_)
    rw [hst, ez]; rfl
  · refine Ev.neg hst (fin _ ?_)
    have : (s != t) = false := by simpa using hst
    rw [this]; rfl
end Go.Proofs.YtglcjhjmncolpaaDoor.Q
