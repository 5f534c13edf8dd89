/- RatioOrder answers true for all pairs of fractions, of numbers of 64 bits: over numbers alone. -/
import Derived.Test.YtglcjhjmncolpaaDoorPh
import Derived.Test.YtglcjhjmncolpaaDoorQx21
namespace Go.Proofs.YtglcjhjmncolpaaDoor.Q
open Go.RowKit Go.Proofs.YtglcjhjmncolpaaDoorW.PrintWords Go.Proofs.YtglcjhjmncolpaaDoorW.PrintLast Go.Proofs.YtglcjhjmncolpaaDoorW.PrintMore

theorem sign_ge {x : Int} : x.sign ≥ 0 ↔ 0 ≤ x := by
  rcases Int.lt_trichotomy x 0 with h1 | h1 | h1
  · rw [Int.sign_eq_neg_one_of_neg h1]; omega
  · rw [h1]; simp
  · rw [Int.sign_eq_one_of_pos h1]; omega
/-- What Cmp answers of two that may be. -/
def cmpR (an ad bn bd : Int) : Int := (an * bd - bn * ad).sign
theorem sign_of_pos {n d : Int} (hd : 0 < d) : (n * d < 0 ↔ n < 0) ∧ (n * d = 0 ↔ n = 0) := by
  constructor
  · constructor
    · intro h; refine Int.lt_of_not_ge fun h2 => ?_
      have := Int.mul_nonneg h2 (Int.le_of_lt hd); omega
    · intro h; exact Int.mul_neg_of_neg_of_pos h hd
  · constructor
    · intro h; rcases Int.mul_eq_zero.mp h with h1 | h1 <;> omega
    · intro h; rw [h, Int.zero_mul]
theorem sign_of {x z : Int} (h : (x < 0 → z = -1) ∧ (x = 0 → z = 0) ∧ (0 < x → z = 1)) : x.sign = z := by
  rcases Int.lt_trichotomy x 0 with h1 | h1 | h1
  · rw [Int.sign_eq_neg_one_of_neg h1, h.1 h1]
  · rw [h1, h.2.1 h1]; rfl
  · rw [Int.sign_eq_one_of_pos h1, h.2.2 h1]

theorem ratio_Cmp_ok {an ad bn bd : Int} (h1 : I64 an) (h2 : I64 ad) (h3 : I64 bn) (h4 : I64 bd) (ha : mayN an ad = true) (hb : mayN bn bd = true) :
    Ev (fun k => ratio_Cmp.f k an ad bn bd) (cmpR an ad bn bd, 0) := by
  have a0 : 0 < ad := by unfold mayN at ha; simp at ha; exact ha.1
  have b0 : 0 < bd := by unfold mayN at hb; simp at hb; exact hb.1
  obtain ⟨p1, p2⟩ := sign_of_pos (n := an) b0
  obtain ⟨q1, q2⟩ := sign_of_pos (n := bn) a0
  unfold ratio_Cmp.f cmpR
  refine Ev.bind (ratio_May_ok h1 h2) (Ev.pos ha (Ev.bind (ratio_May_ok h3 h4) ?_))
  rw [hb]
  refine Ev.step (fun k => by rw [ratio_Cmp.j0]) (Ev.neg (by simp) ?_)
  refine Ev.bindEq (ratio_times_ok h1 h4) (Ev.bindEq (ratio_times_ok h3 h2) ?_)
  have ep : an.natAbs * bd.natAbs = (an * bd).natAbs := (Int.natAbs_mul _ _).symm
  have eq : bn.natAbs * ad.natAbs = (bn * ad).natAbs := (Int.natAbs_mul _ _).symm
  rw [ep, eq]
  generalize an * bd = P at *
  generalize bn * ad = Q at *
  have tail : ∀ z, z = (P - Q).sign → ∀ (s t : Bool), ¬ (P = 0 ∧ Q = 0) → Ev (fun k => ratio_Cmp.j1 k false an ad bn bd s (Hi P.natAbs) (Lo P.natAbs) t (Hi Q.natAbs) (Lo Q.natAbs)) (z, 0) := by
    intro z hz s t hne
    refine Ev.step (fun k => by rw [ratio_Cmp.j1]) (Ev.neg (by simp) ?_)
    by_cases c1 : an < 0
    · refine Ev.pos c1 (Ev.step (fun k => by rw [ratio_Cmp.j2]) ?_)
      by_cases c2 : bn ≥ 0
      · refine Ev.pos (by simp [c2]) ?_
        have e : z = -1 := by rw [hz]; exact sign_of (by omega)
        rw [e]; exact Ev.now _
      · refine Ev.neg (by simp; omega) (Ev.neg (by omega) (Ev.step (fun k => by rw [ratio_Cmp.j3]) (Ev.neg (by simp) (Ev.pos c1 ?_))))
        refine Ev.bind wide_Cmp_ok ?_
        have e : cmpN Q.natAbs P.natAbs = z := by
          rw [hz]; refine (sign_of ?_).symm
          unfold cmpN
          refine ⟨fun h => ?_, fun h => ?_, fun h => ?_⟩
          · rw [if_pos (by omega)]
          · rw [if_neg (by omega), if_neg (by omega)]
          · rw [if_neg (by omega), if_pos (by omega)]
        rw [e]; exact Ev.now _
    · refine Ev.neg c1 (Ev.step (fun k => by rw [ratio_Cmp.j2]) (Ev.neg (by simp) (Ev.pos (by omega) (Ev.step (fun k => by rw [ratio_Cmp.j3]) ?_))))
      by_cases c2 : bn < 0
      · refine Ev.pos (by simp [c2]) ?_
        have e : z = 1 := by rw [hz]; exact sign_of (by omega)
        rw [e]; exact Ev.now _
      · refine Ev.neg (by simp; omega) (Ev.neg c1 ?_)
        refine Ev.bind wide_Cmp_ok ?_
        have e : cmpN P.natAbs Q.natAbs = z := by
          rw [hz]; refine (sign_of ?_).symm
          unfold cmpN
          refine ⟨fun h => ?_, fun h => ?_, fun h => ?_⟩
          · rw [if_pos (by omega)]
          · rw [if_neg (by omega), if_neg (by omega)]
          · rw [if_neg (by omega), if_pos (by omega)]
        rw [e]; exact Ev.now _
  by_cases z1 : P.natAbs = 0
  · refine Ev.pos ((wide_zero _).mpr z1) ?_
    by_cases z2 : Q.natAbs = 0
    · have e : (Hi Q.natAbs == 0 && (Lo Q.natAbs == 0)) = true := (wide_zero _).mpr z2
      show Ev (fun k => ratio_Cmp.j1 k (Hi Q.natAbs == 0 && (Lo Q.natAbs == 0)) _ _ _ _ _ _ _ _ _ _) _
      rw [e]
      refine Ev.step (fun k => by rw [ratio_Cmp.j1]) (Ev.pos rfl ?_)
      have e2 : (P - Q).sign = 0 := sign_of (by omega)
      rw [e2]; exact Ev.now _
    · have e : (Hi Q.natAbs == 0 && (Lo Q.natAbs == 0)) = false := by
        rw [← Bool.not_eq_true]; exact mt (wide_zero _).mp z2
      show Ev (fun k => ratio_Cmp.j1 k (Hi Q.natAbs == 0 && (Lo Q.natAbs == 0)) _ _ _ _ _ _ _ _ _ _) _
      rw [e]
      exact tail _ rfl _ _ (by omega)
  · exact Ev.neg (mt (wide_zero _).mp z1) (tail _ rfl _ _ (by omega))
theorem ratio_Cmp_no {an ad bn bd : Int} (h1 : I64 an) (h2 : I64 ad) (h3 : I64 bn) (h4 : I64 bd) (h : (mayN an ad && mayN bn bd) = false) :
    Ev (fun k => ratio_Cmp.f k an ad bn bd) (0, 1) := by
  unfold ratio_Cmp.f
  refine Ev.bind (ratio_May_ok h1 h2) ?_
  by_cases ha : mayN an ad = true
  · refine Ev.pos ha (Ev.bind (ratio_May_ok h3 h4) ?_)
    have hb : mayN bn bd = false := by rw [ha, Bool.true_and] at h; exact h
    rw [hb]
    refine Ev.step (fun k => by rw [ratio_Cmp.j0]) (Ev.pos (by simp) (Ev.now _))
  · refine Ev.neg ha (Ev.step (fun k => by rw [ratio_Cmp.j0]) (Ev.pos (by simp) (Ev.now _)))
theorem ref_both_ok {an ad bn bd : Int} (h1 : I64 an) (h2 : I64 ad) (h3 : I64 bn) (h4 : I64 bd) :
    Ev (fun k => pochoirref03_both.f k an ad bn bd) (mayN an ad && mayN bn bd) := by
  unfold pochoirref03_both.f
  refine Ev.bind (ref_May_ok h1 h2) ?_
  by_cases ha : mayN an ad = true
  · refine Ev.pos ha (Ev.bind (ref_May_ok h3 h4) ?_)
    rw [ha, Bool.true_and]; exact Ev.now _
  · have e : mayN an ad = false := by rw [← Bool.not_eq_true]; exact ha
    refine Ev.neg ha ?_
    rw [e, Bool.false_and]; exact Ev.now _
theorem prod_Sm {a b : Int} (ha : I64 a) (hb : I64 b) : Sm (a * b) := Sm_big (by have := prod_le ha hb; omega)
theorem ref_Cmp_ok {an ad bn bd : Int} (h1 : I64 an) (h2 : I64 ad) (h3 : I64 bn) (h4 : I64 bd) :
    Ev (fun k => pochoirref03_Cmp.f k an ad bn bd) (if (mayN an ad && mayN bn bd) = true then (cmpR an ad bn bd, 0) else (0, 1)) := by
  unfold pochoirref03_Cmp.f
  refine Ev.bind (ref_both_ok h1 h2 h3 h4) ?_
  by_cases h : (mayN an ad && mayN bn bd) = true
  · refine Ev.pos h ?_
    rw [if_pos h]
    exact Ev.bind (times_ok h1 h4) (Ev.bind (times_ok h3 h2) (Ev.bind (Cmp_ok (prod_Sm h1 h4) (prod_Sm h3 h2)) (Ev.now _)))
  · refine Ev.neg h ?_
    rw [if_neg h]
    exact Ev.now _
theorem ref_Floor_ok {n d : Int} (hn : I64 n) (h0 : 0 < d) : pochoirref03_Floor.f n d = some (n / d) := by
  unfold pochoirref03_Floor.f
  have hw := wrap64_ok (tdiv_range hn h0)
  have hf := tdiv_floor (n := n) h0
  have hr := ediv_range hn h0
  rw [if_neg (by omega)]
  by_cases h : Int.tmod n d < 0
  · rw [if_pos h]
    rw [if_pos h] at hf
    rw [hw, ← hf, wrap64_ok hr]
  · rw [if_neg h]
    rw [if_neg h] at hf
    rw [hw, ← hf]
theorem ref_Round_ok {n d : Int} (hn : I64 n) (hd : I64 d) (h0 : 0 < d) : Ev (fun k => pochoirref03_Round.f k n d) (roundN n d) := by
  unfold pochoirref03_Round.f
  have hr := ediv_range hn h0
  have hm := prod_le hr hd
  have h1 := abs_lt hn
  have h2 := abs_lt hd
  have e1 : n - n / d * d = n % d := by have := Int.mul_ediv_add_emod n d; rw [Int.mul_comm] at this; omega
  have m1 := Int.emod_nonneg n (show d ≠ 0 by omega)
  have m2 := Int.emod_lt_of_pos n h0
  have s1 : Sm (n % d) := Sm_big (by omega)
  have s2 : Sm (n % d + n % d) := Sm_big (by omega)
  refine Ev.bindEq (ref_Floor_ok hn h0) (Ev.bind (Of_ok hn) (Ev.bind (times_ok hr hd) (Ev.bind (Sub_ok (Sm_i64 hn) (prod_Sm hr hd)) ?_)))
  rw [e1]
  refine Ev.bind (Add_ok s1 s1) (Ev.bind (Of_ok hd) (Ev.bind (Cmp_ok s2 (Sm_i64 hd)) ?_))
  unfold roundN
  by_cases h : n % d ≥ d - n % d
  · have hc : (n % d + n % d - d).sign ≥ 0 := sign_ge.mpr (by omega)
    refine Ev.pos hc ?_
    rw [if_pos h]
    have h7 := Int.mul_ediv_add_emod n d
    have hlt : n / d + 1 ≤ 9223372036854775807 := by
      by_cases h8 : n / d < 9223372036854775807
      · omega
      · have h8 : 9223372036854775807 ≤ n / d := by omega
        have h9 : 2 ≤ d := by omega
        have h10 : d * (n / d) ≥ 2 * 9223372036854775807 := Int.mul_le_mul h9 h8 (by omega) (by omega)
        have := hn.2
        omega
    have e7 : wrap64 (n / d + 1) = n / d + 1 := wrap64_ok ⟨by have := hr.1; omega, hlt⟩
    rw [e7]
    exact Ev.now _
  · have hc : ¬ (n % d + n % d - d).sign ≥ 0 := by
      intro hc; have := sign_ge.mp hc; omega
    refine Ev.neg hc ?_
    rw [if_neg h]
    exact Ev.now _

theorem RatioOrder {an ad bn bd : Int} (h1 : I64 an) (h2 : I64 ad) (h3 : I64 bn) (h4 : I64 bd) : ∃ k, pochoirlaw03_RatioOrder.f k an ad bn bd = some true := by
  suffices h : Ev (fun k => pochoirlaw03_RatioOrder.f k an ad bn bd) true from h.rounds
  unfold pochoirlaw03_RatioOrder.f
  refine Ev.bind awake_ok (Ev.pos rfl ?_)
  have hC : Ev (fun k => ratio_Cmp.f k an ad bn bd) (if (mayN an ad && mayN bn bd) = true then (cmpR an ad bn bd, 0) else (0, 1)) := by
    by_cases h : (mayN an ad && mayN bn bd) = true
    · rw [if_pos h]; rw [Bool.and_eq_true] at h; exact ratio_Cmp_ok h1 h2 h3 h4 h.1 h.2
    · rw [if_neg h]; exact ratio_Cmp_no h1 h2 h3 h4 (by rw [← Bool.not_eq_true]; exact h)
  refine Ev.bind hC (Ev.bind (ref_Cmp_ok h1 h2 h3 h4) ?_)
  generalize (if (mayN an ad && mayN bn bd) = true then (cmpR an ad bn bd, 0) else (0, 1) : Int × Int) = c
  by_cases ha : mayN an ad = true
  · have h0 : 0 < ad := by unfold mayN at ha; simp at ha; exact ha.1
    refine Ev.bind (ratio_Floor_ok h1 h2 ha) (Ev.bind (ratio_Round_ok h1 h2 ha) (Ev.pos rfl ?_))
    refine Ev.step (fun k => by rw [pochoirlaw03_RatioOrder.j0]) (Ev.neg (by simp) ?_)
    refine Ev.bind (ref_May_ok h1 h2) (Ev.pos ha (Ev.bindEq (ref_Floor_ok h1 h0) (Ev.pos rfl (Ev.pos rfl ?_))))
    exact Ev.bind (ref_Round_ok h1 h2 h0) (Ev.pos rfl (Ev.now _))
  · have ha2 : mayN an ad = false := by rw [← Bool.not_eq_true]; exact ha
    refine Ev.bind (ratio_Floor_no h1 h2 ha2) (Ev.bind (ratio_Round_no h1 h2 ha2) (Ev.pos rfl ?_))
    refine Ev.step (fun k => by rw [pochoirlaw03_RatioOrder.j0]) (Ev.neg (by simp) ?_)
    exact Ev.bind (ref_May_ok h1 h2) (Ev.neg ha (Ev.pos rfl (Ev.pos rfl (Ev.pos rfl (Ev.now _)))))
end Go.Proofs.YtglcjhjmncolpaaDoor.Q
