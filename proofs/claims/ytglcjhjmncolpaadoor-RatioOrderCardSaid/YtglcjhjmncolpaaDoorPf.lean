/- New and May of both, Floor, Round and Text of the program, and that the law's first example is right. -/
import Derived.Test.YtglcjhjmncolpaaDoorPe
import Derived.Test.YtglcjhjmncolpaaDoorQx11
namespace Go.Proofs.YtglcjhjmncolpaaDoor.Q
open Go.RowKit Go.Proofs.YtglcjhjmncolpaaDoorW.PrintWords Go.Proofs.YtglcjhjmncolpaaDoorW.PrintLast Go.Proofs.YtglcjhjmncolpaaDoorW.PrintMore

/-- A number of 64 bits with a sign. -/
def I64 (n : Int) : Prop := -9223372036854775808 ≤ n ∧ n ≤ 9223372036854775807
theorem i64_of_wf {n : Int} (h : (Lit.int .i64 n).wf = true) : I64 n := by
  have h1 : IntKind.i64.min = -9223372036854775808 := by decide
  have h2 : IntKind.i64.max = 9223372036854775807 := by decide
  simp [Lit.wf, h1, h2] at h
  unfold I64
  omega
theorem abs_lt {n : Int} (h : I64 n) : n.natAbs ≤ 9223372036854775808 := by unfold I64 at h; omega
theorem ratio_size_ok {n : Int} (h : I64 n) : ratio_size.f n = some (n.natAbs : Int) := by
  unfold ratio_size.f I64 at *
  by_cases h0 : n < 0
  · rw [if_pos h0, IntKind.wrap_u64, IntKind.wrap_u64]; congr 1; omega
  · rw [if_neg h0, IntKind.wrap_u64]; congr 1; omega
theorem ref_size_ok {n : Int} (h : I64 n) : pochoirref03_size.f n = some (n.natAbs : Int) := by
  unfold pochoirref03_size.f I64 at *
  by_cases h0 : n < 0
  · rw [if_pos h0, IntKind.wrap_u64, IntKind.wrap_u64]; congr 1; omega
  · rw [if_neg h0, IntKind.wrap_u64]; congr 1; omega
theorem natHi (x : Nat) : (x : Int) / 18446744073709551616 = Hi x := by unfold Hi; omega
theorem natLo (x : Nat) : (x : Int) % 18446744073709551616 = Lo x := by unfold Lo; omega
theorem wide_Mul_ok {x y : Nat} (hx : x < 18446744073709551616) (hy : y < 18446744073709551616) : wide_Mul.f (x : Int) (y : Int) = some (Hi (x * y), Lo (x * y)) := by
  unfold wide_Mul.f bits_Mul64.f
  rw [if_pos ⟨⟨by omega, by omega⟩, ⟨by omega, by omega⟩⟩, ← Int.natCast_mul, natHi, natLo]
  rfl
theorem ratio_times_ok {a b : Int} (ha : I64 a) (hb : I64 b) : ratio_times.f a b = some ((decide (a < 0) != decide (b < 0)), Hi (a.natAbs * b.natAbs), Lo (a.natAbs * b.natAbs)) := by
  have h1 := abs_lt ha
  have h2 := abs_lt hb
  unfold ratio_times.f
  rw [ratio_size_ok ha, Option.bind_some, ratio_size_ok hb, Option.bind_some, wide_Mul_ok (by omega) (by omega), Option.bind_some]
theorem small_prod {x y : Nat} (hx : x ≤ 9223372036854775808) (hy : y ≤ 9223372036854775808) : x * y / 18446744073709551616 < 18446744073709551616 := by
  have : x * y ≤ 9223372036854775808 * 9223372036854775808 := Nat.mul_le_mul hx hy
  omega

/-- What New answers. -/
def newN (n d : Int) : Int × Int × Int := if d = 0 then (0, 0, 13) else lowestN (decide (n < 0) != decide (d < 0)) n.natAbs d.natAbs
theorem ratio_New_ok {n d : Int} (hn : I64 n) (hd : I64 d) : Ev (fun k => ratio_New.f k n d) (newN n d) := by
  have h1 := abs_lt hn
  have h2 := abs_lt hd
  have i1 : I64 1 := by unfold I64; omega
  unfold ratio_New.f newN
  by_cases h0 : d = 0
  · rw [if_pos h0]; exact Ev.pos h0 (Ev.now _)
  · rw [if_neg h0]
    refine Ev.neg h0 ?_
    refine Ev.bindEq (ratio_times_ok hn i1) (Ev.bindEq (ratio_times_ok hd i1) ?_)
    have e : ∀ b : Bool, (b != decide ((1 : Int) < 0)) = b := by intro b; cases b <;> rfl
    have e1 : (1 : Int).natAbs = 1 := rfl
    rw [e, e, e1, Nat.mul_one, Nat.mul_one]
    exact Ev.bind (ratio_lowest_ok (by omega) (by omega) (by omega)) (Ev.now _)

theorem ref_common_ok : ∀ (b a : Nat), Ev (fun k => pochoirref03_common.f k (a : Int) (b : Int)) ((Nat.gcd a b : Nat) : Int) := by
  intro b
  induction b using Nat.strongRecOn with
  | _ b ih =>
    intro a
    unfold pochoirref03_common.f
    refine Ev.step (f := fun k => _) (fun k => by simp only [pochoirref03_common.l0]; rfl) ?_
    by_cases h : b = 0
    · subst h
      rw [Nat.gcd_zero_right]
      exact Ev.neg (by omega) (Ev.now _)
    · refine Ev.pos (by omega) (Ev.neg (by omega) ?_)
      rw [tmodN, Nat.gcd_comm, Nat.gcd_rec, Nat.gcd_comm]
      exact ih (a % b) (Nat.mod_lt _ (by omega)) b

theorem signed_fits {neg : Bool} {x : Nat} (hx : x < 18446744073709551616) : ∃ v : Int, pochoirref03_signed.f neg (x : Int) = some (v, (fitsN neg x).2) ∧ ((fitsN neg x).2 = true → v = (fitsN neg x).1) := by
  unfold pochoirref03_signed.f fitsN
  cases neg
  · refine ⟨wrap64 x, ?_, ?_⟩
    · rw [if_neg (by simp)]
      by_cases h : x < 9223372036854775808
      · rw [if_pos (.inl h)]; simp; omega
      · rw [if_neg (by simp; omega)]; simp; omega
    · by_cases h : x < 9223372036854775808
      · rw [if_pos (.inl h)]; intro _; simp; unfold wrap64; omega
      · rw [if_neg (by simp; omega)]; intro h2; cases h2
  · refine ⟨wrap64 (IntKind.u64.wrap (-(x : Int))), ?_, ?_⟩
    · rw [if_pos rfl]
      by_cases h : x ≤ 9223372036854775808
      · rw [if_pos (by simp; omega)]; simp; omega
      · rw [if_neg (by simp; omega)]; simp; omega
    · by_cases h : x ≤ 9223372036854775808
      · rw [if_pos (by simp; omega)]; intro _; simp; rw [IntKind.wrap_u64]; unfold wrap64; omega
      · rw [if_neg (by simp; omega)]; intro h2; cases h2

theorem ref_New_ok {n d : Int} (hn : I64 n) (hd : I64 d) : Ev (fun k => pochoirref03_New.f k n d) (newN n d) := by
  have h1 := abs_lt hn
  have h2 := abs_lt hd
  unfold pochoirref03_New.f newN
  by_cases h0 : d = 0
  · rw [if_pos h0]; exact Ev.pos h0 (Ev.now _)
  · rw [if_neg h0]
    have hg : 0 < Nat.gcd n.natAbs d.natAbs := Nat.gcd_pos_of_pos_right _ (by omega)
    refine Ev.neg h0 (Ev.bindEq (ref_size_ok hn) (Ev.bindEq (ref_size_ok hd) (Ev.bind (ref_common_ok _ _) ?_)))
    have b1 : n.natAbs / Nat.gcd n.natAbs d.natAbs < 18446744073709551616 := Nat.lt_of_le_of_lt (Nat.div_le_self _ _) (by omega)
    have b2 : d.natAbs / Nat.gcd n.natAbs d.natAbs < 18446744073709551616 := Nat.lt_of_le_of_lt (Nat.div_le_self _ _) (by omega)
    have fin : ∀ c : Bool, c = ((decide (n < 0) != decide (d < 0)) && decide (n.natAbs ≠ 0)) →
        Ev (fun k => (pochoirref03_size.f n).bind fun t => if ((Nat.gcd n.natAbs d.natAbs : Nat) : Int) = 0 then none else (pochoirref03_signed.f c (IntKind.u64.wrap (Int.tdiv t ((Nat.gcd n.natAbs d.natAbs : Nat) : Int)))).bind fun bt => pochoirref03_New.j0 k d ((Nat.gcd n.natAbs d.natAbs : Nat) : Int) bt.1 bt.2)
          (lowestN (decide (n < 0) != decide (d < 0)) n.natAbs d.natAbs) := by
      intro c hc
      subst hc
      refine Ev.bindEq (ref_size_ok hn) (Ev.neg (by omega) ?_)
      rw [tdivN, wrapU b1]
      obtain ⟨v, hv1, hv2⟩ := signed_fits (neg := ((decide (n < 0) != decide (d < 0)) && decide (n.natAbs ≠ 0))) b1
      refine Ev.bindEq hv1 ?_
      refine Ev.step (f := fun k => _) (fun k => by simp only [pochoirref03_New.j0]; rfl) ?_
      refine Ev.bindEq (ref_size_ok hd) (Ev.neg (by omega) ?_)
      rw [tdivN, wrapU b2]
      obtain ⟨u, hu1, hu2⟩ := signed_fits (neg := false) b2
      refine Ev.bindEq hu1 ?_
      unfold lowestN
      by_cases k1 : (fitsN ((decide (n < 0) != decide (d < 0)) && decide (n.natAbs ≠ 0)) (n.natAbs / Nat.gcd n.natAbs d.natAbs)).2 = true
      · refine Ev.pos k1 ?_
        by_cases k2 : (fitsN false (d.natAbs / Nat.gcd n.natAbs d.natAbs)).2 = true
        · refine Ev.pos k2 ?_
          rw [if_pos ⟨k1, k2⟩, ← hv2 k1, ← hu2 k2]
          exact Ev.now _
        · refine Ev.neg k2 ?_
          rw [if_neg (fun k3 => k2 k3.2)]
          exact Ev.now _
      · refine Ev.neg k1 ?_
        rw [if_neg (fun k3 => k1 k3.1)]
        exact Ev.now _
    by_cases hs : (decide (n < 0) != decide (d < 0)) = true
    · refine Ev.pos hs (fin _ ?_)
      rw [hs, Bool.true_and, Bool.eq_iff_iff, bne_iff_ne, decide_eq_true_iff]
      omega
    · refine Ev.neg hs (fin _ ?_)
      have : (decide (n < 0) != decide (d < 0)) = false := by simpa using hs
      rw [this]; rfl

/-- May a fraction be? -/
def mayN (n d : Int) : Bool := decide (0 < d ∧ Nat.gcd n.natAbs d.natAbs = 1)
theorem ratio_May_ok {n d : Int} (hn : I64 n) (hd : I64 d) : Ev (fun k => ratio_May.f k n d) (mayN n d) := by
  have h1 := abs_lt hn
  have h2 := abs_lt hd
  unfold ratio_May.f mayN
  by_cases h0 : 0 < d
  · refine Ev.pos h0 ?_
    refine Ev.bindEq (ratio_size_ok hn) (Ev.bindEq rfl (Ev.bindEq (ratio_size_ok hd) (Ev.bindEq rfl ?_)))
    have hg : Nat.gcd n.natAbs d.natAbs ≤ d.natAbs := Nat.gcd_le_right _ (by omega)
    have hc := ratio_common_ok (a := n.natAbs) (b := d.natAbs) (by omega) (by omega)
    rw [Hi_small (by omega), Hi_small (by omega), Hi_small (by omega), Lo_small (by omega), Lo_small (by omega), Lo_small (by omega)] at hc
    refine Ev.bind hc ?_
    have e : ((0 : Int) == 0 && (((Nat.gcd n.natAbs d.natAbs : Nat) : Int) == 1)) = decide (0 < d ∧ Nat.gcd n.natAbs d.natAbs = 1) := by
      rw [Bool.eq_iff_iff, decide_eq_true_iff]
      simp
      omega
    rw [← e]
    exact Ev.now _
  · refine Ev.neg h0 ?_
    have e : decide (0 < d ∧ Nat.gcd n.natAbs d.natAbs = 1) = false := by simp; omega
    rw [e]
    exact Ev.now _
theorem ref_May_ok {n d : Int} (hn : I64 n) (hd : I64 d) : Ev (fun k => pochoirref03_May.f k n d) (mayN n d) := by
  unfold pochoirref03_May.f mayN
  by_cases h0 : 0 < d
  · refine Ev.pos h0 ?_
    refine Ev.bindEq (ref_size_ok hn) (Ev.bindEq (ref_size_ok hd) (Ev.bind (ref_common_ok _ _) ?_))
    have e : (((Nat.gcd n.natAbs d.natAbs : Nat) : Int) == 1) = decide (0 < d ∧ Nat.gcd n.natAbs d.natAbs = 1) := by
      rw [Bool.eq_iff_iff, decide_eq_true_iff]
      simp
      omega
    rw [← e]
    exact Ev.now _
  · refine Ev.neg h0 ?_
    have e : decide (0 < d ∧ Nat.gcd n.natAbs d.natAbs = 1) = false := by simp; omega
    rw [e]
    exact Ev.now _

theorem tdiv_floor {n d : Int} (hd : 0 < d) : n / d = if Int.tmod n d < 0 then Int.tdiv n d - 1 else Int.tdiv n d := by
  have h1 := Int.mul_tdiv_add_tmod n d
  have h2 := Int.tmod_lt_of_pos n hd
  have h3 : -d < Int.tmod n d := by
    have := Int.tmod_lt_of_pos (-n) hd
    rw [Int.neg_tmod] at this
    omega
  by_cases h : Int.tmod n d < 0
  · rw [if_pos h]
    refine ((Int.ediv_emod_unique (r := Int.tmod n d + d) hd).2 ⟨?_, by omega, by omega⟩).1
    rw [Int.mul_sub]; omega
  · rw [if_neg h]
    exact ((Int.ediv_emod_unique (r := Int.tmod n d) hd).2 ⟨by omega, by omega, h2⟩).1
theorem ediv_range {n d : Int} (hn : I64 n) (hd : 0 < d) : I64 (n / d) := by
  unfold I64 at *
  constructor
  · apply Int.le_ediv_of_mul_le hd
    have : d * (9223372036854775808 : Int) ≥ 1 * 9223372036854775808 := Int.mul_le_mul_of_nonneg_right (by omega) (by omega)
    rw [Int.mul_comm] at this
    omega
  · apply Int.le_of_lt_add_one
    apply Int.ediv_lt_of_lt_mul hd
    have : (9223372036854775808 : Int) * d ≥ 9223372036854775808 * 1 := Int.mul_le_mul_of_nonneg_left (by omega) (by omega)
    omega
theorem wrap64_ok {n : Int} (h : I64 n) : wrap64 n = n := by unfold I64 at h; unfold wrap64; omega
theorem tdiv_range {n d : Int} (hn : I64 n) (hd : 0 < d) : I64 (Int.tdiv n d) := by
  have h := tdiv_floor (n := n) hd
  have h1 := ediv_range hn hd
  by_cases h0 : 0 ≤ n
  · rw [Int.tdiv_eq_ediv_of_nonneg h0]; exact h1
  · have e : Int.tdiv n d = -((-n) / d) := by
      rw [← Int.tdiv_eq_ediv_of_nonneg (show 0 ≤ -n by omega), Int.neg_tdiv]; omega
    rw [e]
    have h2 : 0 ≤ (-n) / d := Int.ediv_nonneg (by omega) (by omega)
    have h3 : (-n) / d ≤ -n := by
      apply Int.ediv_le_self; omega
    unfold I64 at *
    omega
theorem ratio_Floor_ok {n d : Int} (hn : I64 n) (hd : I64 d) (hm : mayN n d = true) : Ev (fun k => ratio_Floor.f k n d) (n / d, 0) := by
  have h0 : 0 < d := by unfold mayN at hm; simp at hm; exact hm.1
  unfold ratio_Floor.f
  refine Ev.bind (ratio_May_ok hn hd) (Ev.pos hm (Ev.neg (by omega) ?_))
  have hw := wrap64_ok (tdiv_range hn h0)
  have hf := tdiv_floor (n := n) h0
  have hr := ediv_range hn h0
  by_cases h : Int.tmod n d < 0
  · refine Ev.pos h ?_
    rw [if_pos h] at hf
    rw [hw, ← hf, wrap64_ok hr]
    exact Ev.now _
  · refine Ev.neg h ?_
    rw [if_neg h] at hf
    rw [hw, ← hf]
    exact Ev.now _
theorem ratio_Floor_no {n d : Int} (hn : I64 n) (hd : I64 d) (hm : mayN n d = false) : Ev (fun k => ratio_Floor.f k n d) (0, 1) := by
  unfold ratio_Floor.f
  refine Ev.bind (ratio_May_ok hn hd) (Ev.neg (by rw [hm]; simp) (Ev.now _))

/-- The nearest whole number. -/
def roundN (n d : Int) : Int := if n % d ≥ d - n % d then n / d + 1 else n / d
theorem ratio_Round_ok {n d : Int} (hn : I64 n) (hd : I64 d) (hm : mayN n d = true) : Ev (fun k => ratio_Round.f k n d) (roundN n d, 0) := by
  have h0 : 0 < d := by unfold mayN at hm; simp at hm; exact hm.1
  have hd2 : d ≤ 9223372036854775807 := hd.2
  unfold ratio_Round.f
  refine Ev.bind (ratio_Floor_ok hn hd hm) (Ev.pos rfl (Ev.neg (by omega) ?_))
  have eD : IntKind.u64.wrap d = d := by rw [IntKind.wrap_u64]; omega
  have h1 := Int.emod_nonneg n (show d ≠ 0 by omega)
  have h2 := Int.emod_lt_of_pos n h0
  have h3 := Int.tmod_lt_of_pos n h0
  have h4 : -d < Int.tmod n d := by
    have := Int.tmod_lt_of_pos (-n) h0
    rw [Int.neg_tmod] at this
    omega
  have h5 := Int.mul_tdiv_add_tmod n d
  have eO : Int.tmod (IntKind.u64.wrap (wrap64 (Int.tmod n d + d))) d = n % d := by
    have ew : wrap64 (Int.tmod n d + d) = (Int.tmod n d + d + 9223372036854775808) % 18446744073709551616 - 9223372036854775808 := by unfold wrap64; rfl
    have eu : IntKind.u64.wrap (wrap64 (Int.tmod n d + d)) = Int.tmod n d + d := by rw [ew, IntKind.wrap_u64]; omega
    rw [eu, Int.tmod_eq_emod_of_nonneg (by omega), Int.add_emod_right]
    conv => rhs; rw [← h5]
    rw [Int.mul_add_emod_self_left]
  rw [eD, eO]
  refine Ev.neg (by omega) ?_
  have e6 : IntKind.u64.wrap (d - n % d) = d - n % d := by rw [IntKind.wrap_u64]; omega
  rw [e6]
  unfold roundN
  by_cases h : n % d ≥ d - n % d
  · refine Ev.pos h ?_
    rw [if_pos h]
    have hr := ediv_range hn h0
    have h7 := Int.mul_ediv_add_emod n d
    have hlt : n / d + 1 ≤ 9223372036854775807 := by
      by_cases h8 : n / d < 9223372036854775807
      · omega
      · have h8 : 9223372036854775807 ≤ n / d := by omega
        have h9 : 2 ≤ d := by omega
        have h10 : d * (n / d) ≥ 2 * 9223372036854775807 := Int.mul_le_mul h9 h8 (by omega) (by omega)
        have := hn.2
        omega
    have e7 : wrap64 (n / d + 1) = n / d + 1 := wrap64_ok ⟨by have := hr.1; omega, hlt⟩
    rw [e7]
    exact Ev.now _
  · refine Ev.neg h ?_
    rw [if_neg h]
    exact Ev.now _
theorem ratio_Round_no {n d : Int} (hn : I64 n) (hd : I64 d) (hm : mayN n d = false) : Ev (fun k => ratio_Round.f k n d) (0, 1) := by
  unfold ratio_Round.f
  exact Ev.bind (ratio_Floor_no hn hd hm) (Ev.neg (by simp) (Ev.now _))

theorem awake_ok : Ev (fun k => pochoirlaw03_awake.f k) true := by
  have i1 : I64 6 := by unfold I64; omega
  have i2 : I64 (-4) := by unfold I64; omega
  have i3 : I64 (-3) := by unfold I64; omega
  have i4 : I64 2 := by unfold I64; omega
  have e1 : newN 6 (-4) = (-3, 2, 0) := by decide
  have e2 : mayN (-3) 2 = true := by decide
  have hN := ratio_New_ok i1 i2
  rw [e1] at hN
  unfold pochoirlaw03_awake.f
  refine Ev.bind hN ?_
  have hF := ratio_Floor_ok i3 i4 e2
  have hR := ratio_Round_ok i3 i4 e2
  refine Ev.bind hF (Ev.bind hR ?_)
  have hT : Ev (fun k => ratio_Text.f k (-3) 2) (⟨#[45, 51, 47, 50]⟩, 0) := by
    unfold ratio_Text.f
    refine Ev.bind (ratio_May_ok i3 i4) (Ev.pos e2 (Ev.neg (by omega) ?_))
    have f1 : strconv_FormatInt.f (-3) 10 = some ⟨#[45, 51]⟩ := by
      unfold strconv_FormatInt.f
      rw [if_pos ⟨rfl, by omega, by omega⟩]
      simp [Lib.itoa, Lib.decDigits]
    have f2 : strconv_FormatInt.f 2 10 = some ⟨#[50]⟩ := by
      unfold strconv_FormatInt.f
      rw [if_pos ⟨rfl, by omega, by omega⟩]
      simp [Lib.itoa, Lib.decDigits]
    refine Ev.bindEq f1 (Ev.pos (by decide) (Ev.bindEq f2 (Ev.pos (by decide) ?_)))
    exact Ev.now _
  refine Ev.bind hT ?_
  refine Ev.pos (by decide) (Ev.pos (by decide) (Ev.pos (by decide) (Ev.pos (by decide) (Ev.pos (by decide) (Ev.pos (by decide) (Ev.pos (by decide +kernel) ?_))))))
  exact Ev.now _
end Go.Proofs.YtglcjhjmncolpaaDoor.Q
