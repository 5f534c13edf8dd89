/- Products of numbers as lists of digits: what pochoirref02.Mul and pochoirref03.times compute. -/
import Derived.Test.YtglcjhjmncolpaaDoorPg
import Derived.Test.YtglcjhjmncolpaaDoorQx18
namespace Go.Proofs.YtglcjhjmncolpaaDoor.Q
open Go.RowKit Go.Proofs.YtglcjhjmncolpaaDoorW.PrintWords Go.Proofs.YtglcjhjmncolpaaDoorW.PrintLast Go.Proofs.YtglcjhjmncolpaaDoorW.PrintMore

theorem V_set {l : List Int} {i : Nat} (hi : i < l.length) (x : Int) : V (l.set i x) + 65536 ^ i * (l.getD i 0).toNat = V l + 65536 ^ i * x.toNat := by
  induction l generalizing i with
  | nil => simp at hi
  | cons d l ih =>
    cases i with
    | zero => simp [V]; omega
    | succ i =>
      have := ih (i := i) (by simpa using hi)
      simp only [List.set_cons_succ, V, List.getD_cons_succ, Nat.pow_succ]
      generalize V (l.set i x) = p at *
      generalize 65536 ^ i = z at *
      grind
theorem Dig_set {l : List Int} (h : Dig l) (i : Nat) {x : Int} (h0 : 0 ≤ x) (h1 : x < 65536) : Dig (l.set i x) := by
  intro d hd
  rcases List.mem_or_eq_of_mem_set hd with h2 | h2
  · exact h d h2
  · subst h2; exact ⟨h0, h1⟩
theorem V_replicate (n : Nat) : V (List.replicate n (0 : Int)) = 0 := by
  induction n with
  | zero => rfl
  | succ n ih => rw [List.replicate_succ, V, ih]; rfl
theorem Dig_replicate (n : Nat) : Dig (List.replicate n (0 : Int)) := by
  intro d hd
  have := (List.mem_replicate.mp hd).2
  omega
theorem V_take_succ {l : List Int} {i : Nat} (h : i < l.length) : V (l.take (i + 1)) = V (l.take i) + 65536 ^ i * (l.getD i 0).toNat := by
  rw [take_snoc h, V_snoc, List.length_take, Nat.min_eq_left (by omega)]

/-- A fact that omega does not see. -/
def Hid (p : Prop) : Prop := p
/-- One step: a digit and what is carried. -/
theorem mul_step {p x y c : Nat} (hx : x < 65536) (hy : y < 65536) (hp : p < 65536) (hc : c < 65536) :
    ∃ q r : Nat, q < 65536 ∧ r < 65536 ∧ p + x * y + c = 65536 * q + r ∧
      Hid (Int.tmod (IntKind.u64.wrap (IntKind.u64.wrap ((p : Int) + IntKind.u64.wrap ((x : Int) * (y : Int))) + (c : Int))) 65536 = (r : Int)) ∧
      Hid (IntKind.u64.wrap (Int.tdiv (IntKind.u64.wrap (IntKind.u64.wrap ((p : Int) + IntKind.u64.wrap ((x : Int) * (y : Int))) + (c : Int))) 65536) = (q : Int)) := by
  unfold Hid
  have h : x * y ≤ 65535 * 65535 := Nat.mul_le_mul (by omega) (by omega)
  have z1 : ((x : Int) * (y : Int)) = ((x * y : Nat) : Int) := by rw [Int.natCast_mul]
  rw [z1]
  generalize x * y = m at *
  have e1 : IntKind.u64.wrap (IntKind.u64.wrap ((p : Int) + IntKind.u64.wrap (m : Int)) + (c : Int)) = ((p + m + c : Nat) : Int) := by
    rw [u64w (n := (m : Int)) (by omega) (by omega), u64w (n := (p : Int) + (m : Int)) (by omega) (by omega), u64w (by omega) (by omega)]; omega
  rw [e1]
  have hn : p + m + c < 4294967296 := by omega
  generalize p + m + c = n at *
  refine ⟨n / 65536, n % 65536, by omega, by omega, by omega, ?_, ?_⟩
  · rw [Int.tmod_eq_emod_of_nonneg (by omega)]; omega
  · rw [Int.tdiv_eq_ediv_of_nonneg (by omega), u64w (by omega) (by omega)]; omega
theorem mul_value {vo vs z p r q c x y u C : Nat} (hs : vs + z * p = vo + z * r) (hn : p + x * y + c = 65536 * q + r) (hv : vo + z * (c + x * (y + 65536 * u)) = C) : vs + z * 65536 * (q + x * u) = C := by
  have h1 : z * (p + x * y + c) = z * (65536 * q + r) := by rw [hn]
  grind

/-- The weight of a place. -/
def B (n : Nat) : Nat := 65536 ^ n
theorem B_succ (n : Nat) : B (n + 1) = B n * 65536 := Nat.pow_succ _ _
theorem B_add (n m : Nat) : B (n + m) = B n * B m := Nat.pow_add _ _ _
theorem V_setB {l : List Int} {i : Nat} (hi : i < l.length) (x : Int) : V (l.set i x) + B i * (l.getD i 0).toNat = V l + B i * x.toNat := V_set hi x
theorem V_take_succB {l : List Int} {i : Nat} (h : i < l.length) : V (l.take (i + 1)) = V (l.take i) + B i * (l.getD i 0).toNat := V_take_succ h
theorem V_ltB {l : List Int} (h : Dig l) : V l < B l.length := V_lt h

theorem w64_add {i j : Nat} (h : i + j < 1000000000) : wrap64 ((i : Int) + (j : Int)) = ((i + j : Nat) : Int) := by rw [w64 (by omega) (by omega)]; omega
theorem w64_succ {j : Nat} (h : j < 1000000000) : wrap64 ((j : Int) + 1) = ((j + 1 : Nat) : Int) := by rw [w64 (by omega) (by omega)]; omega
/-- The inner loop: the digit i of the first one by all digits of the other one. -/
theorem mul_inner (s t : Bool) (a b : List Int) (ha : Dig a) (hb : Dig b) (sa : a.length < 1000000) (sb : b.length < 1000000) (i : Nat) (hi : i < a.length) (C : Nat) (hC : C < B (i + 1 + b.length)) :
    ∀ (m : Nat) (o : List Int) (c j : Nat), b.length + 1 - j ≤ m → j ≤ b.length + 1 → c < 65536 → Dig o → o.length = a.length + b.length + 1 →
    V o + B (i + j) * (c + (a.getD i 0).toNat * V (b.drop j)) = C →
    ∃ r : List Int, Dig r ∧ r.length = a.length + b.length + 1 ∧ V r = C ∧ ∀ z, Ev (fun k => pochoirref02_Mul.l0 k r ((i + 1 : Nat) : Int) s a t b) z → Ev (fun k => pochoirref02_Mul.l1 k o (i : Int) (c : Int) (j : Int) s a t b) z := by
  intro m
  induction m with
  | zero =>
    intro o c j hm hj hc hd hl hv
    have ej : j = b.length + 1 := by omega
    have c0 : c = 0 := by
      refine Nat.eq_zero_of_not_pos fun hp => ?_
      have h1 : B (i + j) * 1 ≤ B (i + j) * (c + (a.getD i 0).toNat * V (b.drop j)) := Nat.mul_le_mul_left _ (by omega)
      rw [show i + j = i + 1 + b.length by omega] at *
      omega
    subst c0
    refine ⟨o, hd, hl, ?_, fun z hz => ?_⟩
    · rw [← hv, V_drop_end (by omega)]; simp
    · refine Ev.step (fun k => by rw [pochoirref02_Mul.l1]) (Ev.neg (by omega) (Ev.neg (by omega) ?_))
      have e : wrap64 ((i : Int) + 1) = ((i + 1 : Nat) : Int) := by rw [w64 (by omega) (by omega)]; omega
      rw [e]; exact hz
  | succ m ih =>
    intro o c j hm hj hc hd hl hv
    by_cases hgo : j < b.length ∨ c > 0
    · have hj2 : j ≤ b.length := by
        refine Nat.le_of_not_lt fun hlt => ?_
        have h1 : B (i + j) * 1 ≤ B (i + j) * (c + (a.getD i 0).toNat * V (b.drop j)) := Nat.mul_le_mul_left _ (by omega)
        rw [show i + j = i + 1 + b.length by omega] at *
        omega
      obtain ⟨x, hx⟩ : ∃ x : Nat, (x : Int) = a.getD i 0 := ⟨(a.getD i 0).toNat, by have := Dig_get ha i; omega⟩
      obtain ⟨y, hy⟩ : ∃ y : Nat, (y : Int) = b.getD j 0 := ⟨(b.getD j 0).toNat, by have := Dig_get hb j; omega⟩
      obtain ⟨p, hp⟩ : ∃ p : Nat, (p : Int) = o.getD (i + j) 0 := ⟨(o.getD (i + j) 0).toNat, by have := Dig_get hd (i + j); omega⟩
      have hx2 : x < 65536 := by have := Dig_get ha i; omega
      have hy2 : y < 65536 := by have := Dig_get hb j; omega
      have hp2 : p < 65536 := by have := Dig_get hd (i + j); omega
      have e5 : (a.getD i 0).toNat = x := by omega
      have e6 : (b.getD j 0).toNat = y := by omega
      have e7 : (o.getD (i + j) 0).toNat = p := by omega
      have w0 : wrap64 ((i : Int) + (j : Int)) = ((i + j : Nat) : Int) := w64_add (by clear hv hC; omega)
      have e4 : wrap64 ((j : Int) + 1) = ((j + 1 : Nat) : Int) := w64_succ (by clear hv hC w0; omega)
      have e8 : (((i + j : Nat) : Int)).toNat = i + j := Int.toNat_natCast _
      have hij : i + j < o.length := by clear hv hC w0 e4; omega
      obtain ⟨q, g, hq, hg, hn, e1, e2⟩ := mul_step hx2 hy2 hp2 hc
      have hs := V_setB (l := o) (i := i + j) hij (g : Int)
      have e9 : ((g : Int)).toNat = g := Int.toNat_natCast _
      rw [e7, e9] at hs
      rw [V_drop b j, e5, e6] at hv
      have hv2 := mul_value hs hn hv
      rw [← B_succ, Nat.add_assoc] at hv2
      have hv3 : V (o.set (i + j) (g : Int)) + B (i + (j + 1)) * (q + (a.getD i 0).toNat * V (b.drop (j + 1))) = C := by rw [e5]; exact hv2
      obtain ⟨r, r1, r2, r3, r4⟩ := ih (o.set (i + j) (g : Int)) q (j + 1) (by clear hv hC w0 e4 hn hs hv2 hv3; omega) (by clear hv hC w0 e4 hn hs hv2 hv3; omega) hq (Dig_set hd _ (Int.natCast_nonneg _) (by clear hv hC w0 e4 hn hs hv2 hv3; omega)) (by rw [List.length_set]; exact hl) hv3
      refine ⟨r, r1, r2, r3, fun z hz => ?_⟩
      have fin := r4 z hz
      unfold Hid at e1 e2
      clear hv hv2 hv3 hs hn hC hq hg
      have t1 : (0 : Int) ≤ ((i + j : Nat) : Int) := by clear e1 e2 w0 e4; omega
      have t2 : ((i + j : Nat) : Int) < (o.length : Int) := by clear e1 e2 w0 e4; omega
      have t3 : (0 : Int) ≤ (i : Int) := by clear e1 e2 w0 e4; omega
      have t4 : (i : Int) < (a.length : Int) := by clear e1 e2 w0 e4; omega
      refine Ev.step (fun k => by rw [pochoirref02_Mul.l1]) ?_
      by_cases h1 : j < b.length
      · refine Ev.pos (by clear e1 e2 w0 e4; omega) ?_
        rw [w0]
        refine Ev.pos t1 (Ev.pos t2 (Ev.pos t3 (Ev.pos t4 ?_)))
        refine Ev.bindEq (at_ok b j) ?_
        rw [rd_nat, rd_nat, ← hx, ← hy, ← hp, e1, e2, e4, e8]
        exact fin
      · refine Ev.neg (by clear e1 e2 w0 e4; omega) (Ev.pos (by clear e1 e2 w0 e4; omega) ?_)
        rw [w0]
        refine Ev.pos t1 (Ev.pos t2 (Ev.pos t3 (Ev.pos t4 ?_)))
        refine Ev.bindEq (at_ok b j) ?_
        rw [rd_nat, rd_nat, ← hx, ← hy, ← hp, e1, e2, e4, e8]
        exact fin
    · have c0 : c = 0 := by omega
      subst c0
      refine ⟨o, hd, hl, ?_, fun z hz => ?_⟩
      · rw [← hv, V_drop_end (by omega)]; simp
      · refine Ev.step (fun k => by rw [pochoirref02_Mul.l1]) (Ev.neg (by omega) (Ev.neg (by omega) ?_))
        have e : wrap64 ((i : Int) + 1) = ((i + 1 : Nat) : Int) := by rw [w64 (by omega) (by omega)]; omega
        rw [e]; exact hz

theorem mul_outer (s t : Bool) (a b : List Int) (ha : Dig a) (hb : Dig b) (sa : a.length < 1000000) (sb : b.length < 1000000) :
    ∀ (m i : Nat) (o : List Int), a.length - i ≤ m → i ≤ a.length → Dig o → o.length = a.length + b.length + 1 → V o = V (a.take i) * V b →
    ∃ r : List Int, Dig r ∧ r.length = a.length + b.length + 1 ∧ V r = V a * V b ∧ ∀ z, Ev (fun k => pochoirref02_norm.f k (s != t) r) z → Ev (fun k => pochoirref02_Mul.l0 k o (i : Int) s a t b) z := by
  intro m
  induction m with
  | zero =>
    intro i o hm hi hd hl hv
    refine ⟨o, hd, hl, ?_, fun z hz => ?_⟩
    · rw [hv, List.take_of_length_le (by omega)]
    · exact Ev.step (fun k => by rw [pochoirref02_Mul.l0]) (Ev.neg (by omega) (Ev.bind hz (Ev.now _)))
  | succ m ih =>
    intro i o hm hi hd hl hv
    by_cases h : i < a.length
    · have hva := V_take_succB h
      have e0 : V o + B (i + 0) * (0 + (a.getD i 0).toNat * V (b.drop 0)) = V (a.take (i + 1)) * V b := by
        rw [hva, hv, List.drop_zero]
        grind
      have hC : V (a.take (i + 1)) * V b < B (i + 1 + b.length) := by
        have h1 := V_ltB (Dig_take ha (i + 1))
        rw [List.length_take, Nat.min_eq_left (by omega)] at h1
        have h2 := V_ltB hb
        rw [B_add]
        exact Nat.mul_lt_mul'' h1 h2
      obtain ⟨r, r1, r2, r3, r4⟩ := mul_inner s t a b ha hb sa sb i h _ hC _ o 0 0 (Nat.le_refl _) (by omega) (by omega) hd hl e0
      obtain ⟨q, q1, q2, q3, q4⟩ := ih (i + 1) r (by omega) (by omega) r1 r2 r3
      refine ⟨q, q1, q2, q3, fun z hz => ?_⟩
      have r5 : Ev (fun k => pochoirref02_Mul.l1 k o (i : Int) 0 0 s a t b) z := r4 z (q4 z hz)
      exact Ev.step (fun k => by rw [pochoirref02_Mul.l0]) (Ev.pos (by omega) r5)
    · refine ⟨o, hd, hl, ?_, fun z hz => ?_⟩
      · rw [hv, List.take_of_length_le (by omega)]
      · exact Ev.step (fun k => by rw [pochoirref02_Mul.l0]) (Ev.neg (by omega) (Ev.bind hz (Ev.now _)))

theorem sg_mul {x y : Int} (h : x * y ≠ 0) : (Sg x != Sg y) = decide (x * y < 0) := by
  have hx : x ≠ 0 := fun e => h (by rw [e, Int.zero_mul])
  have hy : y ≠ 0 := fun e => h (by rw [e, Int.mul_zero])
  unfold Sg
  by_cases h1 : x < 0 <;> by_cases h2 : y < 0
  · have := Int.mul_pos_of_neg_of_neg h1 h2
    simp [h1, h2]; omega
  · have := Int.mul_neg_of_neg_of_pos h1 (by omega : 0 < y)
    simp [h1, h2, this]
  · have := Int.mul_neg_of_pos_of_neg (by omega : 0 < x) h2
    simp [h1, h2, this]
  · have := Int.mul_pos (by omega : 0 < x) (by omega : 0 < y)
    simp [h1, h2]; omega
theorem Mul_ok {x y : Int} (hx : Sm x) (hy : Sm y) : Ev (fun k => pochoirref02_Mul.f k (Sg x) (Mg x) (Sg y) (Mg y)) (Sg (x * y), Mg (x * y)) := by
  unfold Sm at hx hy
  unfold pochoirref02_Mul.f
  have e : wrap64 (wrap64 (((Mg x).length : Int) + ((Mg y).length : Int)) + 1) = (((Mg x).length + (Mg y).length + 1 : Nat) : Int) := by
    rw [w64 (n := ((Mg x).length : Int) + ((Mg y).length : Int)) (by omega) (by omega), w64 (by omega) (by omega)]; omega
  rw [e]
  refine Ev.pos (by omega) (Ev.pos (by omega) ?_)
  obtain ⟨r, r1, r2, r3, r4⟩ := mul_outer (Sg x) (Sg y) (Mg x) (Mg y) (Dig_D _) (Dig_D _) (by omega) (by omega) _ 0 (List.replicate ((((Mg x).length + (Mg y).length + 1 : Nat) : Int)).toNat 0) (Nat.le_refl _) (by omega) (Dig_replicate _) (by rw [List.length_replicate]; omega) (by rw [V_replicate]; simp [V])
  refine r4 _ (normI r1 (by omega) ?_ (fun h => sg_mul h))
  rw [r3, Int.natAbs_mul]
  show V (D _) * V (D _) = _
  rw [V_D, V_D]
theorem Sm_i64 {n : Int} (h : I64 n) : Sm n := Sm_of (k := 4) (by omega) (by
  have h1 := abs_lt h
  have h2 : (65536 : Nat) ^ 4 = 18446744073709551616 := by decide
  omega)
theorem times_ok {a b : Int} (ha : I64 a) (hb : I64 b) : Ev (fun k => pochoirref03_times.f k a b) (Sg (a * b), Mg (a * b)) := by
  unfold pochoirref03_times.f
  exact Ev.bind (Of_ok ha) (Ev.bind (Of_ok hb) (Ev.bind (Mul_ok (Sm_i64 ha) (Sm_i64 hb)) (Ev.now _)))
/-- Numbers below 2 to the power of 1024 are small. -/
theorem Sm_big {n : Int} (h : n.natAbs ≤ 9223372036854775808 * 9223372036854775808 * 4) : Sm n := Sm_of (k := 9) (by omega) (by
  have h1 : (65536 : Nat) ^ 9 = 65536 ^ 8 * 65536 := Nat.pow_succ 65536 8
  have h2 : (65536 : Nat) ^ 8 = 18446744073709551616 * 18446744073709551616 := by decide
  omega)
theorem prod_le {a b : Int} (ha : I64 a) (hb : I64 b) : (a * b).natAbs ≤ 9223372036854775808 * 9223372036854775808 := by
  rw [Int.natAbs_mul]; exact Nat.mul_le_mul (abs_lt ha) (abs_lt hb)

end Go.Proofs.YtglcjhjmncolpaaDoor.Q
