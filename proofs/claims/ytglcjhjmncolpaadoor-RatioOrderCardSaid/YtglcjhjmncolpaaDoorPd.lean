/- bits.Div64: the quotient and the remainder of a number of 128 bits by one of 64 bits (two digits, each guessed and set right). -/
import Derived.Test.YtglcjhjmncolpaaDoorPc
import Derived.Test.YtglcjhjmncolpaaDoorQx6
namespace Go.Proofs.YtglcjhjmncolpaaDoor.Q
open Go.RowKit Go.Proofs.YtglcjhjmncolpaaDoorW.PrintWords Go.Proofs.YtglcjhjmncolpaaDoorW.PrintLast Go.Proofs.YtglcjhjmncolpaaDoorW.PrintMore

/-- A guess that is too great. -/
theorem guess_high {u u1 v1 v0 q r : Nat} (hr : q * v1 + r = u) (hc : q * v0 > 4294967296 * r + u1) : u * 4294967296 + u1 < q * (v1 * 4294967296 + v0) := by
  subst hr; grind
theorem guess_low {u u1 v1 v0 q r : Nat} (hr : q * v1 + r = u) (hc : ¬ q * v0 > 4294967296 * r + u1) : q * (v1 * 4294967296 + v0) ≤ u * 4294967296 + u1 := by
  subst hr
  have : q * v0 ≤ 4294967296 * r + u1 := by omega
  have e : q * (v1 * 4294967296 + v0) = q * v1 * 4294967296 + q * v0 := by grind
  rw [e]; omega
theorem quot_of {N V q : Nat} (h1 : q * V ≤ N) (h2 : N / V ≤ q) (hV : 0 < V) : q = N / V := by
  have := (Nat.le_div_iff_mul_le hV).2 h1
  omega
theorem quot_lt {N V q : Nat} (h : N < q * V) : N / V < q := Nat.div_lt_of_lt_mul (by rw [Nat.mul_comm]; exact h)

section
variable {s v1 v0 u u1 u0 : Nat}
/-- One guess is set right. -/
theorem div_loop0 {Q : Nat} {res : Int × Int} (hv1 : 2147483648 ≤ v1) (hv1' : v1 < 4294967296) (hv0 : v0 < 4294967296) (hu : u < v1 * 4294967296 + v0) (hu1 : u1 < 4294967296)
    (hQe : (u * 4294967296 + u1) / (v1 * 4294967296 + v0) = Q)
    (hk : Ev (fun k => bits_Div64.j2 k ((v1 * 4294967296 + v0 : Nat) : Int) (s : Int) v1 v0 u u1 u0 (Q : Int)) res) :
    ∀ (d q r : Nat), 4294967296 - r ≤ d → q * v1 + r = u → r < 4294967296 → Q ≤ q → q ≤ 4294967297 →
    Ev (fun k => bits_Div64.l0 k ((v1 * 4294967296 + v0 : Nat) : Int) (s : Int) v1 v0 u u1 u0 (q : Int) (r : Int)) res := by
  intro d
  induction d with
  | zero => intro q r h; omega
  | succ d ih =>
    intro q r hd hr hrb hq hqb
    have hV : 0 < v1 * 4294967296 + v0 := by omega
    have hQ : Q < 4294967296 := by rw [← hQe]; exact quot_lt (by omega)
    have hgtq : ∀ q, u * 4294967296 + u1 < q * (v1 * 4294967296 + v0) → Q < q := fun q h => by rw [← hQe]; exact quot_lt h
    have hfq : ∀ q, q * (v1 * 4294967296 + v0) ≤ u * 4294967296 + u1 → Q ≤ q → q = Q := fun q h1 h2 => by rw [← hQe] at h2 ⊢; exact quot_of h1 h2 hV
    clear hQe
    have hprod : q * v0 < 18446744073709551616 := by
      have : q * v0 ≤ 4294967297 * 4294967295 := Nat.mul_le_mul hqb (by omega)
      omega
    -- what stands behind the test
    have key : ∀ c : Bool, (c = true ↔ (4294967296 ≤ q ∨ q * v0 > 4294967296 * r + u1)) →
        Ev (fun k => bits_Div64.j1 k ((v1 * 4294967296 + v0 : Nat) : Int) (s : Int) v1 v0 u u1 u0 (q : Int) (r : Int) c) res := by
      intro c hc
      refine Ev.step (f := fun k => _) (fun k => by simp only [bits_Div64.j1]; rfl) ?_
      by_cases h : c = true
      · have hgt : Q < q := by
          rcases hc.1 h with h1 | h1
          · omega
          · exact hgtq _ (guess_high hr h1)
        refine Ev.pos h ?_
        have e1 : IntKind.u64.wrap ((q : Int) - 1) = ((q - 1 : Nat) : Int) := by rw [IntKind.wrap_u64]; omega
        have e2 : IntKind.u64.wrap ((r : Int) + v1) = ((r + v1 : Nat) : Int) := by rw [IntKind.wrap_u64]; omega
        have hr' : (q - 1) * v1 + (r + v1) = u := by
          obtain ⟨q', rfl⟩ : ∃ q', q = q' + 1 := ⟨q - 1, by omega⟩
          rw [Nat.add_mul] at hr
          simp only [Nat.add_sub_cancel]
          omega
        rw [e1, e2]
        by_cases h2 : 4294967296 ≤ r + v1
        · refine Ev.pos (by omega) ?_
          have hqB : q - 1 < 4294967296 := by
            rcases Nat.lt_or_ge (q - 1) 4294967296 with h3 | h3
            · exact h3
            · have := Nat.mul_le_mul_right v1 h3
              omega
          have hfin : q - 1 = Q := by
            refine hfq _ (guess_low hr' ?_) (by omega)
            have h4 : (q - 1) * v0 ≤ 4294967295 * 4294967295 := Nat.mul_le_mul (by omega) (by omega)
            omega
          rw [hfin]
          exact hk
        · refine Ev.neg (by omega) ?_
          exact ih (q - 1) (r + v1) (by omega) hr' (by omega) (by omega) (by omega)
      · refine Ev.neg h ?_
        have h5 : ¬ (4294967296 ≤ q ∨ q * v0 > 4294967296 * r + u1) := fun h6 => h (hc.2 h6)
        have hfin : q = Q := hfq _ (guess_low hr (by omega)) hq
        rw [← hfin] at hk
        exact hk
    refine Ev.step (f := fun k => _) (fun k => by simp only [bits_Div64.l0]; rfl) ?_
    by_cases h : 4294967296 ≤ q
    · refine Ev.pos (by omega) (key true ⟨fun _ => .inl h, fun _ => rfl⟩)
    · refine Ev.neg (by omega) (key _ ?_)
      have e1 : IntKind.u64.wrap ((q : Int) * v0) = ((q * v0 : Nat) : Int) := by rw [← Int.natCast_mul, IntKind.wrap_u64]; omega
      have e2 : IntKind.u64.wrap (IntKind.u64.wrap (4294967296 * (r : Int)) + u1) = ((4294967296 * r + u1 : Nat) : Int) := by rw [IntKind.wrap_u64, IntKind.wrap_u64]; omega
      rw [e1, e2, decide_eq_true_iff]
      omega
theorem div_loop1 {Q : Nat} {q1 : Nat} {res : Int × Int} (hv1 : 2147483648 ≤ v1) (hv1' : v1 < 4294967296) (hv0 : v0 < 4294967296) (hu : u < v1 * 4294967296 + v0) (hu0 : u0 < 4294967296)
    (hQe : (u * 4294967296 + u0) / (v1 * 4294967296 + v0) = Q)
    (hk : res = (IntKind.u64.wrap (IntKind.u64.wrap ((q1 : Int) * 4294967296) + (Q : Int)), shr .u64 (IntKind.u64.wrap (IntKind.u64.wrap (IntKind.u64.wrap ((u : Int) * 4294967296) + u0) - IntKind.u64.wrap ((Q : Int) * ((v1 * 4294967296 + v0 : Nat) : Int)))) (s : Int))) :
    ∀ (d q r : Nat), 4294967296 - r ≤ d → q * v1 + r = u → r < 4294967296 → Q ≤ q → q ≤ 4294967297 →
    Ev (fun k => bits_Div64.l1 k ((v1 * 4294967296 + v0 : Nat) : Int) (s : Int) v1 v0 u0 q1 (r : Int) u (q : Int)) res := by
  intro d
  induction d with
  | zero => intro q r h; omega
  | succ d ih =>
    intro q r hd hr hrb hq hqb
    have hV : 0 < v1 * 4294967296 + v0 := by omega
    have hQ : Q < 4294967296 := by rw [← hQe]; exact quot_lt (by omega)
    have hgtq : ∀ q, u * 4294967296 + u0 < q * (v1 * 4294967296 + v0) → Q < q := fun q h => by rw [← hQe]; exact quot_lt h
    have hfq : ∀ q, q * (v1 * 4294967296 + v0) ≤ u * 4294967296 + u0 → Q ≤ q → q = Q := fun q h1 h2 => by rw [← hQe] at h2 ⊢; exact quot_of h1 h2 hV
    clear hQe
    have hprod : q * v0 < 18446744073709551616 := by
      have : q * v0 ≤ 4294967297 * 4294967295 := Nat.mul_le_mul hqb (by omega)
      omega
    have key : ∀ c : Bool, (c = true ↔ (4294967296 ≤ q ∨ q * v0 > 4294967296 * r + u0)) →
        Ev (fun k => bits_Div64.j4 k ((v1 * 4294967296 + v0 : Nat) : Int) (s : Int) v1 v0 u0 q1 (r : Int) u (q : Int) c) res := by
      intro c hc
      refine Ev.step (f := fun k => _) (fun k => by simp only [bits_Div64.j4]; rfl) ?_
      by_cases h : c = true
      · have hgt : Q < q := by
          rcases hc.1 h with h1 | h1
          · omega
          · exact hgtq _ (guess_high hr h1)
        refine Ev.pos h ?_
        have e1 : IntKind.u64.wrap ((q : Int) - 1) = ((q - 1 : Nat) : Int) := by rw [IntKind.wrap_u64]; omega
        have e2 : IntKind.u64.wrap ((r : Int) + v1) = ((r + v1 : Nat) : Int) := by rw [IntKind.wrap_u64]; omega
        have hr' : (q - 1) * v1 + (r + v1) = u := by
          obtain ⟨q', rfl⟩ : ∃ q', q = q' + 1 := ⟨q - 1, by omega⟩
          rw [Nat.add_mul] at hr
          simp only [Nat.add_sub_cancel]
          omega
        rw [e1, e2]
        by_cases h2 : 4294967296 ≤ r + v1
        · refine Ev.pos (by omega) ?_
          have hqB : q - 1 < 4294967296 := by
            rcases Nat.lt_or_ge (q - 1) 4294967296 with h3 | h3
            · exact h3
            · have := Nat.mul_le_mul_right v1 h3
              omega
          have hfin : q - 1 = Q := by
            refine hfq _ (guess_low hr' ?_) (by omega)
            have h4 : (q - 1) * v0 ≤ 4294967295 * 4294967295 := Nat.mul_le_mul (by omega) (by omega)
            omega
          rw [hfin, hk]
          exact Ev.pos (by omega) (Ev.now _)
        · refine Ev.neg (by omega) ?_
          exact ih (q - 1) (r + v1) (by omega) hr' (by omega) (by omega) (by omega)
      · refine Ev.neg h ?_
        have h5 : ¬ (4294967296 ≤ q ∨ q * v0 > 4294967296 * r + u0) := fun h6 => h (hc.2 h6)
        have hfin : q = Q := hfq _ (guess_low hr (by omega)) hq
        rw [hfin, hk]
        exact Ev.pos (by omega) (Ev.now _)
    refine Ev.step (f := fun k => _) (fun k => by simp only [bits_Div64.l1]; rfl) ?_
    by_cases h : 4294967296 ≤ q
    · refine Ev.pos (by omega) (key true ⟨fun _ => .inl h, fun _ => rfl⟩)
    · refine Ev.neg (by omega) (key _ ?_)
      have e1 : IntKind.u64.wrap ((q : Int) * v0) = ((q * v0 : Nat) : Int) := by rw [← Int.natCast_mul, IntKind.wrap_u64]; omega
      have e2 : IntKind.u64.wrap (IntKind.u64.wrap (4294967296 * (r : Int)) + u0) = ((4294967296 * r + u0 : Nat) : Int) := by rw [IntKind.wrap_u64, IntKind.wrap_u64]; omega
      rw [e1, e2, decide_eq_true_iff]
      omega
end

theorem tdivN (a b : Nat) : Int.tdiv (a : Int) (b : Int) = ((a / b : Nat) : Int) := by rw [Int.tdiv_eq_ediv_of_nonneg (by omega)]; rfl
theorem tmodN (a b : Nat) : Int.tmod (a : Int) (b : Int) = ((a % b : Nat) : Int) := by rw [Int.tmod_eq_emod_of_nonneg (by omega)]; rfl
theorem wrapU {a : Nat} (h : a < 18446744073709551616) : IntKind.u64.wrap (a : Int) = (a : Int) := by rw [IntKind.wrap_u64]; omega
theorem rest_of {a b q : Nat} (h : q = a / b) : a - q * b = a % b := by
  subst h
  have := Nat.div_add_mod a b
  rw [Nat.mul_comm]
  omega
/-- What a guess leaves over, taken mod 2^64. -/
theorem wrapRest {a b : Nat} (hb : b < 18446744073709551616) (h0 : 0 < b) : IntKind.u64.wrap ((a : Int) - IntKind.u64.wrap (((a / b : Nat) : Int) * (b : Int))) = ((a % b : Nat) : Int) := by
  rw [← Int.natCast_mul, IntKind.wrap_u64, IntKind.wrap_u64]
  have h1 := Nat.div_add_mod a b
  have h2 : a % b < b := Nat.mod_lt _ h0
  rw [Nat.mul_comm] at h1
  generalize a / b * b = p at *
  generalize a % b = r at *
  omega

theorem two_digits {U u1 u0 Y : Nat} (hY : 0 < Y) : (U * 18446744073709551616 + (u1 * 4294967296 + u0)) / Y = (U * 4294967296 + u1) / Y * 4294967296 + ((U * 4294967296 + u1) % Y * 4294967296 + u0) / Y
    ∧ (U * 18446744073709551616 + (u1 * 4294967296 + u0)) % Y = ((U * 4294967296 + u1) % Y * 4294967296 + u0) % Y := by
  have h1 := Nat.div_add_mod (U * 4294967296 + u1) Y
  have e : U * 18446744073709551616 + (u1 * 4294967296 + u0) = Y * ((U * 4294967296 + u1) / Y * 4294967296) + ((U * 4294967296 + u1) % Y * 4294967296 + u0) := by
    generalize (U * 4294967296 + u1) / Y = q at *
    generalize (U * 4294967296 + u1) % Y = r at *
    have e1 : Y * (q * 4294967296) = Y * q * 4294967296 := (Nat.mul_assoc _ _ _).symm
    rw [e1]
    omega
  constructor
  · rw [e, Nat.mul_add_div hY]
  · rw [e, Nat.mul_add_mod]

theorem guess_ok {Y v1 v0 : Nat} (eY : Y = v1 * 4294967296 + v0) (hv1a : 2147483648 ≤ v1) (hv1b : v1 < 4294967296) (hv0b : v0 < 4294967296) (u w : Nat) (hu : u < Y) (hw : w < 4294967296) :
    u / v1 * v1 + u % v1 = u ∧ u % v1 < 4294967296 ∧ (u * 4294967296 + w) / Y ≤ u / v1 ∧ u / v1 ≤ 4294967297 := by
  have h1 := Nat.div_add_mod u v1
  have h2 : u % v1 < v1 := Nat.mod_lt _ (by omega)
  rw [Nat.mul_comm] at h1
  have h6 : v1 * 4294967296 ≤ Y := by omega
  refine ⟨h1, by omega, ?_, ?_⟩
  · apply Nat.le_of_lt_succ
    apply Nat.div_lt_of_lt_mul
    have h3 : u + 1 ≤ (u / v1 + 1) * v1 := by rw [Nat.add_mul]; omega
    have h4 := Nat.mul_le_mul_right 4294967296 h3
    have h5 : (u / v1 + 1) * v1 * 4294967296 ≤ Y * (u / v1 + 1) := by
      rw [Nat.mul_assoc, Nat.mul_comm Y]
      exact Nat.mul_le_mul_left _ h6
    show u * 4294967296 + w < Y * (u / v1 + 1)
    omega
  · apply Nat.le_of_lt_succ
    apply Nat.div_lt_of_lt_mul
    omega
theorem last_digit {Q1 Q0 : Nat} (h1 : Q1 < 4294967296) (h0 : Q0 < 4294967296) : ((Q1 * 4294967296 + Q0 : Nat) : Int) = IntKind.u64.wrap (IntKind.u64.wrap ((Q1 : Int) * 4294967296) + (Q0 : Int)) := by
  rw [IntKind.wrap_u64, IntKind.wrap_u64]
  omega
/-- The second digit, and what is left over. -/
theorem div_second {Y s v1 v0 u0 R Q1 : Nat} (hs63 : s ≤ 63) (eY : Y = v1 * 4294967296 + v0) (hY1 : Y < 18446744073709551616) (hv1a : 2147483648 ≤ v1) (hv1b : v1 < 4294967296) (hv0b : v0 < 4294967296) (hu0b : u0 < 4294967296) (hR : R < Y) (hQ1 : Q1 < 4294967296) :
    Ev (fun k => bits_Div64.l1 k (Y : Int) (s : Int) v1 v0 u0 Q1 (IntKind.u64.wrap ((R : Int) - IntKind.u64.wrap (IntKind.u64.wrap (Int.tdiv (R : Int) v1) * v1))) R (IntKind.u64.wrap (Int.tdiv (R : Int) v1)))
      (((Q1 * 4294967296 + (R * 4294967296 + u0) / Y : Nat) : Int), (((R * 4294967296 + u0) % Y / 2 ^ s : Nat) : Int)) := by
  obtain ⟨k1, k2, k3, k4⟩ := guess_ok eY hv1a hv1b hv0b _ u0 hR hu0b
  rw [tdivN, wrapU (show R / v1 < 18446744073709551616 by omega), wrapRest (by omega) (by omega)]
  have hQ0 : (R * 4294967296 + u0) / Y < 4294967296 := quot_lt (by omega)
  have e2 : IntKind.u64.wrap (IntKind.u64.wrap (IntKind.u64.wrap ((R : Int) * 4294967296) + u0) - IntKind.u64.wrap ((((R * 4294967296 + u0) / Y : Nat) : Int) * (Y : Int))) = (((R * 4294967296 + u0) % Y : Nat) : Int) := by
    rw [← wrapRest (a := R * 4294967296 + u0) hY1 (by omega)]
    generalize IntKind.u64.wrap ((((R * 4294967296 + u0) / Y : Nat) : Int) * (Y : Int)) = z
    rw [IntKind.wrap_u64, IntKind.wrap_u64, IntKind.wrap_u64, IntKind.wrap_u64]
    omega
  subst eY
  refine div_loop1 (s := s) (q1 := Q1) hv1a hv1b hv0b hR hu0b rfl ?_ _ _ _ (Nat.le_refl _) k1 k2 k3 k4
  rw [e2, shrI (by omega), last_digit hQ1 hQ0]

theorem bits_Div64_ok {hi lo y : Nat} (h : hi < y) (hy : y < 18446744073709551616) (hlo : lo < 18446744073709551616) :
    Ev (fun k => bits_Div64.f k (hi : Int) (lo : Int) (y : Int)) ((((hi * 18446744073709551616 + lo) / y : Nat) : Int), (((hi * 18446744073709551616 + lo) % y : Nat) : Int)) := by
  unfold bits_Div64.f
  refine Ev.neg (by omega) (Ev.neg (by omega) ?_)
  by_cases h0 : hi = 0
  · subst h0
    refine Ev.pos (by omega) ?_
    rw [tdivN, tmodN, wrapU (Nat.lt_of_le_of_lt (Nat.div_le_self _ _) hlo)]
    simp only [Nat.zero_mul, Nat.zero_add]
    exact Ev.now _
  refine Ev.neg (by omega) ?_
  obtain ⟨hb1, hb2, hb3⟩ := bitLen_spec y hy
  have hb2 := hb2 (by omega)
  have hb0 : 1 ≤ Lib.bitLen y := by
    rcases Nat.eq_zero_or_pos (Lib.bitLen y) with h1 | h1
    · rw [h1] at hb1; omega
    · exact h1
  obtain ⟨s, hs⟩ : ∃ s, 64 - Lib.bitLen y = s := ⟨_, rfl⟩
  have hlz : bits_LeadingZeros64.f (y : Int) = some (s : Int) := by
    unfold bits_LeadingZeros64.f bits_Len64.f
    rw [if_pos ⟨by omega, by omega⟩]
    simp only [Option.bind_some, Int.toNat_natCast]
    congr 1
    unfold wrap64
    omega
  refine Ev.bindEq hlz ?_
  have hs63 : s ≤ 63 := by omega
  have hm := two_split (s := s) (by omega)
  have hbl : Lib.bitLen y = 64 - s := by omega
  rw [hbl] at hb1 hb2
  clear hs hb3 hb0 hbl hlz
  have hp : 0 < 2 ^ s := Nat.two_pow_pos _
  have hY1 : y * 2 ^ s < 18446744073709551616 := by
    rw [← hm, Nat.mul_comm (2 ^ s)]; exact Nat.mul_lt_mul_of_pos_right hb1 hp
  have hY2 : 9223372036854775808 ≤ y * 2 ^ s := by
    have h1 := Nat.mul_le_mul_right (2 ^ s) hb2
    rw [Nat.mul_comm (2 ^ (64 - s)), hm, Nat.mul_assoc] at h1
    omega
  have hU0 : (hi + 1) * 2 ^ s ≤ y * 2 ^ s := Nat.mul_le_mul_right _ h
  rw [Nat.add_mul, Nat.one_mul] at hU0
  have hsplit := mul_split (lo := lo) hm
  have hcar : lo / 2 ^ (64 - s) < 2 ^ s := by
    apply Nat.div_lt_of_lt_mul
    rw [Nat.mul_comm, hm]; exact hlo
  have ews : IntKind.u64.wrap (s : Int) = (s : Int) := wrapU (by omega)
  have ew6 : IntKind.u64.wrap ((64 : Int) - (s : Int)) = ((64 - s : Nat) : Int) := by rw [show (64 : Int) = ((64 : Nat) : Int) from rfl, subU (by omega) (by omega)]
  have eY : shl .u64 (y : Int) (s : Int) = ((y * 2 ^ s : Nat) : Int) := by rw [shlI (by omega), Nat.mod_eq_of_lt hY1]
  have eU : Go.bits .or .u64 (shl .u64 (hi : Int) (s : Int)) (shr .u64 (lo : Int) ((64 - s : Nat) : Int)) = ((hi * 2 ^ s + lo / 2 ^ (64 - s) : Nat) : Int) := by
    rw [shlI (by omega), shrI (by omega), Nat.mod_eq_of_lt (by omega), or_ok (by omega) hcar (by omega)]
  have eW : shl .u64 (lo : Int) (s : Int) = ((lo % 2 ^ (64 - s) * 2 ^ s : Nat) : Int) := by rw [shlI (by omega), mod_split hm]
  rw [ews, ew6, eY, eU, eW]
  have hN : (hi * 18446744073709551616 + lo) * 2 ^ s = (hi * 2 ^ s + lo / 2 ^ (64 - s)) * 18446744073709551616 + lo % 2 ^ (64 - s) * 2 ^ s := by
    rw [Nat.add_mul, hsplit.1, Nat.add_mul, Nat.mul_assoc, Nat.mul_comm 18446744073709551616 (2 ^ s), ← Nat.mul_assoc, Nat.add_assoc]
  have hq : (hi * 18446744073709551616 + lo) / y = ((hi * 2 ^ s + lo / 2 ^ (64 - s)) * 18446744073709551616 + lo % 2 ^ (64 - s) * 2 ^ s) / (y * 2 ^ s) := by
    rw [← hN, Nat.mul_div_mul_right _ _ hp]
  have hr : ((hi * 2 ^ s + lo / 2 ^ (64 - s)) * 18446744073709551616 + lo % 2 ^ (64 - s) * 2 ^ s) % (y * 2 ^ s) / 2 ^ s = (hi * 18446744073709551616 + lo) % y := by
    rw [← hN, Nat.mul_mod_mul_right, Nat.mul_div_cancel _ hp]
  rw [hq, ← hr]
  have hUY : hi * 2 ^ s + lo / 2 ^ (64 - s) < y * 2 ^ s := by omega
  have hW := hsplit.2
  clear hN hq hr hsplit hcar eY eU eW ews ew6 hU0 hb1 hb2 hm h h0 hy hlo
  generalize hi * 2 ^ s + lo / 2 ^ (64 - s) = U at *
  generalize lo % 2 ^ (64 - s) * 2 ^ s = W at *
  generalize y * 2 ^ s = Y at *
  clear hp
  obtain ⟨v1, hv1⟩ : ∃ v1, Y / 4294967296 = v1 := ⟨_, rfl⟩
  obtain ⟨v0, hv0⟩ : ∃ v0, Y % 4294967296 = v0 := ⟨_, rfl⟩
  obtain ⟨u1, hu1⟩ : ∃ u1, W / 4294967296 = u1 := ⟨_, rfl⟩
  obtain ⟨u0, hu0⟩ : ∃ u0, W % 4294967296 = u0 := ⟨_, rfl⟩
  have ev1 : ((Y : Nat) : Int) / 4294967296 = (v1 : Int) := by omega
  have ev0 : Go.bits .and .u64 (Y : Int) 4294967295 = (v0 : Int) := by rw [Mul64.maskN Y hY1, hv0]
  have eu1 : ((W : Nat) : Int) / 4294967296 = (u1 : Int) := by omega
  have eu0 : Go.bits .and .u64 (W : Int) 4294967295 = (u0 : Int) := by rw [Mul64.maskN W hW, hu0]
  have eY : Y = v1 * 4294967296 + v0 := by omega
  have eW : W = u1 * 4294967296 + u0 := by omega
  rw [ev1, ev0, eu1, eu0]
  refine Ev.pos (by omega) (Ev.pos (by omega) (Ev.neg (by omega) ?_))
  have hv1a : 2147483648 ≤ v1 := by omega
  have hv1b : v1 < 4294967296 := by omega
  have hv0b : v0 < 4294967296 := by omega
  have hu1b : u1 < 4294967296 := by omega
  have hu0b : u0 < 4294967296 := by omega
  clear hv1 hv0 hu1 hu0 ev1 ev0 eu1 eu0 hW hY2
  rw [eW, (two_digits (U := U) (u1 := u1) (u0 := u0) (Y := Y) (by omega)).1, (two_digits (U := U) (u1 := u1) (u0 := u0) (Y := Y) (by omega)).2]
  clear eW
  -- the first digit
  have guess := guess_ok eY hv1a hv1b hv0b
  have hQ1 : (U * 4294967296 + u1) / Y < 4294967296 := quot_lt (by rw [eY]; omega)
  have hR : (U * 4294967296 + u1) % Y < Y := Nat.mod_lt _ (by omega)
  have eR : IntKind.u64.wrap (IntKind.u64.wrap (IntKind.u64.wrap ((U : Int) * 4294967296) + u1) - IntKind.u64.wrap ((((U * 4294967296 + u1) / Y : Nat) : Int) * (Y : Int))) = (((U * 4294967296 + u1) % Y : Nat) : Int) := by
    rw [← wrapRest (a := U * 4294967296 + u1) hY1 (by omega)]
    generalize IntKind.u64.wrap ((((U * 4294967296 + u1) / Y : Nat) : Int) * (Y : Int)) = z
    rw [IntKind.wrap_u64, IntKind.wrap_u64, IntKind.wrap_u64, IntKind.wrap_u64]
    omega
  obtain ⟨g1, g2, g3, g4⟩ := guess U u1 hUY hu1b
  rw [tdivN, wrapU (show U / v1 < 18446744073709551616 by omega), wrapRest (by omega) (by omega)]
  rw [eY] at g3 hUY
  have hmain := div_loop0 (s := s) (u0 := u0) (res := (((((U * 4294967296 + u1) / Y * 4294967296 + ((U * 4294967296 + u1) % Y * 4294967296 + u0) / Y : Nat)) : Int), (((((U * 4294967296 + u1) % Y * 4294967296 + u0) % Y / 2 ^ s : Nat)) : Int))) hv1a hv1b hv0b hUY hu1b rfl ?_ _ _ _ (Nat.le_refl _) g1 g2 g3 g4
  · rw [eY] at hmain ⊢; exact hmain
  refine Ev.step (f := fun k => _) (fun k => by simp only [bits_Div64.j2]; rfl) ?_
  refine Ev.neg (by omega) ?_
  rw [← eY, eR]
  exact div_second hs63 eY hY1 hv1a hv1b hv0b hu0b hR hQ1
end Go.Proofs.YtglcjhjmncolpaaDoor.Q
