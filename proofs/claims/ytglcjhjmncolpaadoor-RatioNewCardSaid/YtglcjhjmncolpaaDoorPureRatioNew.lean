/- RatioNew answers true for all numbers of 64 bits: over numbers alone. -/
import Derived.Test.YtglcjhjmncolpaaDoorPf
import Derived.Test.YtglcjhjmncolpaaDoorQx12
namespace Go.Proofs.YtglcjhjmncolpaaDoor.Q
open Go.RowKit Go.Proofs.YtglcjhjmncolpaaDoorW.PrintWords Go.Proofs.YtglcjhjmncolpaaDoorW.PrintLast Go.Proofs.YtglcjhjmncolpaaDoorW.PrintMore

theorem fitsN_ok {neg : Bool} {x : Nat} (h : (fitsN neg x).2 = true) : I64 (fitsN neg x).1 ∧ (fitsN neg x).1.natAbs = x ∧ (neg = false → (fitsN neg x).1 = x) := by
  unfold fitsN at *
  by_cases h1 : x < 9223372036854775808 ∨ (x = 9223372036854775808 ∧ neg = true)
  · rw [if_pos h1]
    cases neg
    · simp at h1 ⊢; unfold I64; omega
    · simp at h1 ⊢; unfold I64; omega
  · rw [if_neg h1] at h; cases h
theorem gcd_rest {a b : Nat} (h : 0 < Nat.gcd a b) : Nat.gcd (a / Nat.gcd a b) (b / Nat.gcd a b) = 1 := by
  have e1 := Nat.mul_div_cancel' (Nat.gcd_dvd_left a b)
  have e2 := Nat.mul_div_cancel' (Nat.gcd_dvd_right a b)
  have e3 : Nat.gcd a b * Nat.gcd (a / Nat.gcd a b) (b / Nat.gcd a b) = Nat.gcd a b * 1 := by
    rw [← Nat.gcd_mul_left, e1, e2, Nat.mul_one]
  exact Nat.eq_of_mul_eq_mul_left h e3
/-- What New makes may be. -/
theorem newN_may {n d : Int} (h : (newN n d).2.2 = 0) : I64 (newN n d).1 ∧ I64 (newN n d).2.1 ∧ mayN (newN n d).1 (newN n d).2.1 = true := by
  unfold newN at *
  by_cases h0 : d = 0
  · rw [if_pos h0] at h; cases h
  · rw [if_neg h0] at h ⊢
    generalize (decide (n < 0) != decide (d < 0)) = s at *
    unfold lowestN at *
    have hg : 0 < Nat.gcd n.natAbs d.natAbs := Nat.gcd_pos_of_pos_right _ (by omega)
    by_cases hc : (fitsN (s && decide (n.natAbs ≠ 0)) (n.natAbs / Nat.gcd n.natAbs d.natAbs)).2 = true ∧ (fitsN false (d.natAbs / Nat.gcd n.natAbs d.natAbs)).2 = true
    · rw [if_pos hc]
      obtain ⟨a1, a2, _⟩ := fitsN_ok hc.1
      obtain ⟨b1, b2, b3⟩ := fitsN_ok hc.2
      refine ⟨a1, b1, ?_⟩
      unfold mayN
      rw [decide_eq_true_iff]
      show 0 < (fitsN false (d.natAbs / Nat.gcd n.natAbs d.natAbs)).1 ∧ Nat.gcd (fitsN (s && decide (n.natAbs ≠ 0)) (n.natAbs / Nat.gcd n.natAbs d.natAbs)).1.natAbs (fitsN false (d.natAbs / Nat.gcd n.natAbs d.natAbs)).1.natAbs = 1
      rw [a2, b2, b3 rfl]
      constructor
      · have : 0 < d.natAbs / Nat.gcd n.natAbs d.natAbs := Nat.div_pos (Nat.gcd_le_right _ (by omega)) hg
        omega
      · exact gcd_rest hg
    · rw [if_neg hc] at h; cases h

theorem RatioNew : pochoirlaw03_RatioNew.Pure := by
  intro n d w0 w1
  have hn := i64_of_wf w0
  have hd := i64_of_wf w1
  suffices h : Ev (fun k => pochoirlaw03_RatioNew.f k n d) true from h.rounds
  unfold pochoirlaw03_RatioNew.f
  refine Ev.bind awake_ok (Ev.pos rfl (Ev.bind (ratio_New_ok hn hd) (Ev.bind (ref_New_ok hn hd) ?_)))
  refine Ev.pos (by simp) (Ev.pos rfl ?_)
  refine Ev.bind (ratio_May_ok hn hd) (Ev.bind (ref_May_ok hn hd) (Ev.pos (by simp) ?_))
  by_cases h : (newN n d).2.2 = 0
  · refine Ev.pos h ?_
    obtain ⟨h1, h2, h3⟩ := newN_may h
    refine Ev.bind (ratio_May_ok h1 h2) ?_
    rw [h3]
    exact Ev.now _
  · exact Ev.neg h (Ev.now _)
end Go.Proofs.YtglcjhjmncolpaaDoor.Q
