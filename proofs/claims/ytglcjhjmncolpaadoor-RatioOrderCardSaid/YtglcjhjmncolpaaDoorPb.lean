/- Shifts of numbers of 128 bits, how many places they have, and how many twos divide them. -/
import Derived.Test.YtglcjhjmncolpaaDoorPa
namespace Go.Proofs.YtglcjhjmncolpaaDoor.Q
open Go.RowKit Go.Proofs.YtglcjhjmncolpaaDoorW.PrintWords Go.Proofs.YtglcjhjmncolpaaDoorW.PrintLast Go.Proofs.YtglcjhjmncolpaaDoorW.PrintMore

theorem two_split {s : Nat} (h : s ≤ 64) : 2 ^ s * 2 ^ (64 - s) = 18446744073709551616 := by
  rw [← Nat.pow_add, show s + (64 - s) = 64 from by omega]
theorem mul_split {lo p q : Nat} (h : p * q = 18446744073709551616) : lo * p = lo / q * 18446744073709551616 + lo % q * p ∧ lo % q * p < 18446744073709551616 := by
  have hq : 0 < q := by
    rcases Nat.eq_zero_or_pos q with h0 | h0
    · subst h0; simp at h
    · exact h0
  have hp : 0 < p := by
    rcases Nat.eq_zero_or_pos p with h0 | h0
    · subst h0; simp at h
    · exact h0
  constructor
  · conv => lhs; rw [← Nat.div_add_mod lo q]
    rw [Nat.add_mul, Nat.mul_comm q, Nat.mul_assoc, Nat.mul_comm q p, h]
  · rw [← h, Nat.mul_comm p q]
    exact Nat.mul_lt_mul_of_pos_right (Nat.mod_lt _ hq) hp
theorem div_split {a p q : Nat} (h : p * q = 18446744073709551616) : a / p = a / 18446744073709551616 * q + a % 18446744073709551616 / p := by
  have hp : 0 < p := by
    rcases Nat.eq_zero_or_pos p with h0 | h0
    · subst h0; simp at h
    · exact h0
  conv => lhs; rw [← Nat.div_add_mod a 18446744073709551616]
  rw [← h, Nat.mul_assoc, Nat.mul_add_div hp, Nat.mul_comm q]

theorem shrI {x s : Nat} (h : s ≤ 64) : shr .u64 (x : Int) (s : Int) = ((x / 2 ^ s : Nat) : Int) := by
  rw [shr_ok, Nat.min_eq_left h]
theorem shlI {x s : Nat} (h : s ≤ 64) : shl .u64 (x : Int) (s : Int) = ((x * 2 ^ s % 18446744073709551616 : Nat) : Int) := by
  rw [shl_ok, Nat.min_eq_left h]
theorem mod_split {x p q : Nat} (h : p * q = 18446744073709551616) : x * p % 18446744073709551616 = x % q * p := by
  obtain ⟨h1, h2⟩ := mul_split (lo := x) h
  rw [h1, Nat.add_comm, Nat.add_mul_mod_self_right, Nat.mod_eq_of_lt h2]
theorem subU {m s : Nat} (h : s ≤ m) (hm : m < 18446744073709551616) : IntKind.u64.wrap ((m : Int) - (s : Int)) = ((m - s : Nat) : Int) := by rw [IntKind.wrap_u64]; omega
theorem div_hi {a q : Nat} : a / q / 18446744073709551616 = a / 18446744073709551616 / q := by
  rw [Nat.div_div_eq_div_mul, Nat.div_div_eq_div_mul, Nat.mul_comm]

/-- To the right, by places from 1 up to 127. -/
theorem wide_right_ok {a s : Nat} (ha : a / 18446744073709551616 < 18446744073709551616) (h1 : 1 ≤ s) (h2 : s < 128) : wide_right.f (Hi a) (Lo a) (s : Int) = some (Hi (a / 2 ^ s), Lo (a / 2 ^ s)) := by
  unfold wide_right.f
  by_cases h : 64 ≤ s
  · rw [if_pos (by omega), show ((64 : Int)) = ((64 : Nat) : Int) from rfl]
    have e1 : IntKind.u64.wrap ((s : Int) - (64 : Nat)) = ((s - 64 : Nat) : Int) := by rw [IntKind.wrap_u64]; omega
    rw [e1, if_pos (by omega)]
    have e2 : a / 2 ^ s = a / 18446744073709551616 / 2 ^ (s - 64) := by
      rw [show (18446744073709551616 : Nat) = 2 ^ 64 from by decide, Nat.div_div_eq_div_mul, ← Nat.pow_add, show 64 + (s - 64) = s from by omega]
    have e3 : a / 2 ^ s < 18446744073709551616 := by
      rw [e2]; exact Nat.lt_of_le_of_lt (Nat.div_le_self _ _) ha
    rw [Hi_small e3, Lo_small e3]
    unfold Hi
    rw [shrI (by omega), e2]
  · have hs : s ≤ 64 := by omega
    rw [if_neg (by omega), if_pos (by omega), show ((64 : Int)) = ((64 : Nat) : Int) from rfl, subU (by omega) (by omega), if_pos (by omega)]
    have hm := two_split hs
    have hm2 := two_split (s := 64 - s) (by omega)
    rw [show 64 - (64 - s) = s from by omega] at hm2
    have hd := div_split (a := a) hm
    have hx := mul_split (lo := a / 18446744073709551616) hm2
    have hy : a % 18446744073709551616 / 2 ^ s < 2 ^ (64 - s) := by
      apply Nat.div_lt_of_lt_mul
      rw [hm]; exact Nat.mod_lt _ (by omega)
    have e1 : a / 2 ^ s / 18446744073709551616 = a / 18446744073709551616 / 2 ^ s := div_hi
    have e2 : a / 2 ^ s % 18446744073709551616 = a / 18446744073709551616 % 2 ^ s * 2 ^ (64 - s) + a % 18446744073709551616 / 2 ^ s := by
      rw [hd, hx.1, Nat.add_assoc, Nat.add_comm, Nat.add_mul_mod_self_right, Nat.mod_eq_of_lt]
      have hz : a / 18446744073709551616 % 2 ^ s < 2 ^ s := Nat.mod_lt _ (Nat.two_pow_pos _)
      have h3 : (a / 18446744073709551616 % 2 ^ s + 1) * 2 ^ (64 - s) ≤ 2 ^ s * 2 ^ (64 - s) := Nat.mul_le_mul_right _ hz
      rw [hm, Nat.add_mul, Nat.one_mul] at h3
      omega
    unfold Hi Lo
    rw [shrI hs, shrI hs, shlI (by omega), mod_split hm2, or_comm', or_ok (by omega) hy (by have := hx.2; omega), e1, e2]

/-- To the left, where none is lost. -/
theorem wide_left_ok {a s : Nat} (ha : a * 2 ^ s / 18446744073709551616 < 18446744073709551616) (h2 : s ≤ 127) : wide_left.f (Hi a) (Lo a) (s : Int) = some (Hi (a * 2 ^ s), Lo (a * 2 ^ s)) := by
  unfold wide_left.f
  by_cases h : 64 ≤ s
  · rw [if_pos (by omega), show ((64 : Int)) = ((64 : Nat) : Int) from rfl]
    have e1 : IntKind.u64.wrap ((s : Int) - (64 : Nat)) = ((s - 64 : Nat) : Int) := by rw [IntKind.wrap_u64]; omega
    rw [e1, if_pos (by omega)]
    have e2 : a * 2 ^ s = a * 2 ^ (s - 64) * 18446744073709551616 := by
      rw [show (18446744073709551616 : Nat) = 2 ^ 64 from by decide, Nat.mul_assoc, ← Nat.pow_add, show s - 64 + 64 = s from by omega]
    rw [e2, Nat.mul_div_cancel _ (by omega)] at ha
    have hp : 0 < 2 ^ (s - 64) := Nat.two_pow_pos _
    have hlt : a < 18446744073709551616 := Nat.lt_of_le_of_lt (Nat.le_mul_of_pos_right a hp) ha
    rw [Lo_small hlt, shlI (by omega), e2]
    unfold Hi Lo
    rw [Nat.mul_div_cancel _ (by omega), Nat.mul_mod_left, Nat.mod_eq_of_lt ha]
    rfl
  · have hs : s ≤ 64 := by omega
    rw [if_neg (by omega), if_pos (by omega), show ((64 : Int)) = ((64 : Nat) : Int) from rfl, subU (by omega) (by omega), if_pos (by omega)]
    have hm := two_split hs
    have hx := mul_split (lo := a % 18446744073709551616) hm
    have e0 : a * 2 ^ s = (a / 18446744073709551616 * 2 ^ s + a % 18446744073709551616 / 2 ^ (64 - s)) * 18446744073709551616 + a % 18446744073709551616 % 2 ^ (64 - s) * 2 ^ s := by
      conv => lhs; rw [← Nat.div_add_mod a 18446744073709551616]
      rw [Nat.add_mul, hx.1, Nat.add_mul, Nat.mul_comm 18446744073709551616, Nat.mul_assoc, Nat.mul_comm 18446744073709551616 (2 ^ s), ← Nat.mul_assoc, Nat.add_assoc]
    have e1 : a * 2 ^ s / 18446744073709551616 = a / 18446744073709551616 * 2 ^ s + a % 18446744073709551616 / 2 ^ (64 - s) := by
      have := hx.2
      rw [e0]; omega
    have e2 : a * 2 ^ s % 18446744073709551616 = a % 18446744073709551616 % 2 ^ (64 - s) * 2 ^ s := by
      have := hx.2
      rw [e0]; omega
    rw [e1] at ha
    have hy : a % 18446744073709551616 / 2 ^ (64 - s) < 2 ^ s := by
      apply Nat.div_lt_of_lt_mul
      rw [Nat.mul_comm, hm]; exact Nat.mod_lt _ (by omega)
    have hlt : a / 18446744073709551616 * 2 ^ s < 18446744073709551616 := by omega
    unfold Hi Lo
    rw [shlI hs, shlI hs, shrI (by omega), Nat.mod_eq_of_lt hlt, or_ok hs hy hlt, e1, e2, mod_split hm]
end Go.Proofs.YtglcjhjmncolpaaDoor.Q
