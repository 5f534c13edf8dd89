/- Numbers of 128 bits as pairs: what the printed functions of package wide compute. -/
import Derived.Test.YtglcjhjmncolpaaDoorQx4
import Derived.Laws.Bits64b
namespace Go.Proofs.YtglcjhjmncolpaaDoor.Q
open Go.RowKit Go.Proofs.YtglcjhjmncolpaaDoorW.PrintWords Go.Proofs.YtglcjhjmncolpaaDoorW.PrintLast Go.Proofs.YtglcjhjmncolpaaDoorW.PrintMore

/-- The upper and the lower half of a number. -/
def Hi (a : Nat) : Int := ((a / 18446744073709551616 : Nat) : Int)
def Lo (a : Nat) : Int := ((a % 18446744073709551616 : Nat) : Int)
theorem Hi_small {a : Nat} (h : a < 18446744073709551616) : Hi a = 0 := by unfold Hi; omega
theorem Lo_small {a : Nat} (h : a < 18446744073709551616) : Lo a = a := by unfold Lo; omega
theorem Lo_ok (a : Nat) : u64ok (Lo a) := by unfold u64ok Lo; omega
theorem Hi_ok {a : Nat} (h : a / 18446744073709551616 < 18446744073709551616) : u64ok (Hi a) := by unfold u64ok Hi; omega
theorem wide_zero (a : Nat) : ((Hi a == 0 && (Lo a == 0)) = true) ↔ a = 0 := by
  simp only [Bool.and_eq_true, beq_iff_eq]; unfold Hi Lo; omega
theorem wide_nonzero (a : Nat) : ((!(Hi a == 0) || (!(Lo a == 0))) = true) ↔ a ≠ 0 := by
  simp only [Bool.or_eq_true, Bool.not_eq_true', beq_eq_false_iff_ne]; unfold Hi Lo; omega

theorem Ev.eq {α : Type} {g : Nat → Option α} {r : α} (h : ∀ k, g k = some r) : Ev g r := ⟨0, fun k _ => h k⟩
theorem Ev.at_ {α : Type} {g : Nat → Option α} {r : α} (h : Ev g r) : ∃ k, g k = some r := h.rounds
theorem Ev.bindEq {α β : Type} {g : Option α} {f : Nat → α → Option β} {a : α} {r : β} (h : g = some a) (k : Ev (fun n => f n a) r) : Ev (fun n => g.bind (f n)) r := by
  subst h; exact k
theorem Ev.pos {α : Type} {c : Prop} [Decidable c] {f g : Nat → Option α} {r : α} (h : c) (k : Ev f r) : Ev (fun n => if c then f n else g n) r := by
  obtain ⟨K, hK⟩ := k
  exact ⟨K, fun n hn => by show (if c then f n else g n) = some r; rw [if_pos h]; exact hK n hn⟩
theorem Ev.neg {α : Type} {c : Prop} [Decidable c] {f g : Nat → Option α} {r : α} (h : ¬ c) (k : Ev g r) : Ev (fun n => if c then f n else g n) r := by
  obtain ⟨K, hK⟩ := k
  exact ⟨K, fun n hn => by show (if c then f n else g n) = some r; rw [if_neg h]; exact hK n hn⟩
theorem Ev.unique {α : Type} {g : Nat → Option α} {r r' : α} (h : Ev g r) (h' : Ev g r') : r = r' := by
  obtain ⟨K, hK⟩ := h
  obtain ⟨K', hK'⟩ := h'
  have h1 := hK (K + K') (by omega)
  rw [hK' (K + K') (by omega)] at h1
  exact (Option.some.inj h1).symm

theorem sub_lo {a b : Nat} : bits_Sub64.f (Lo a) (Lo b) 0 = some ((Lo a - Lo b - 0) % 18446744073709551616, if Lo a < Lo b + 0 then 1 else 0) := by
  unfold bits_Sub64.f; rw [if_pos ⟨Lo_ok a, Lo_ok b, by omega, by omega⟩]
theorem sub_hi1 {a b : Nat} (hb : b ≤ a) : ¬ (Hi a < Hi b + (if Lo a < Lo b + 0 then 1 else 0)) := by unfold Hi Lo; split <;> omega
theorem sub_hi2 {a b : Nat} (hb : b ≤ a) (ha : a / 18446744073709551616 < 18446744073709551616) : (Hi a - Hi b - (if Lo a < Lo b + 0 then 1 else 0)) % 18446744073709551616 = Hi (a - b) := by unfold Hi Lo; split <;> omega
theorem sub_lo2 {a b : Nat} (hb : b ≤ a) : (Lo a - Lo b - 0) % 18446744073709551616 = Lo (a - b) := by unfold Lo; omega
theorem sub_hi {a b : Nat} (hb : b ≤ a) (ha : a / 18446744073709551616 < 18446744073709551616) : bits_Sub64.f (Hi a) (Hi b) (if Lo a < Lo b + 0 then 1 else 0) = some (Hi (a - b), 0) := by
  unfold bits_Sub64.f
  rw [if_pos ⟨Hi_ok ha, Hi_ok (by omega), by split <;> omega, by split <;> omega⟩, if_neg (sub_hi1 hb), sub_hi2 hb ha]
theorem wide_Sub_ok {a b : Nat} (hb : b ≤ a) (ha : a / 18446744073709551616 < 18446744073709551616) : wide_Sub.f (Hi a) (Lo a) (Hi b) (Lo b) = some (Hi (a - b), Lo (a - b), 0) := by
  unfold wide_Sub.f
  rw [sub_lo, Option.bind_some, sub_hi hb ha, Option.bind_some, if_pos rfl, sub_lo2 hb]

def cmpN (a b : Nat) : Int := if a < b then -1 else if b < a then 1 else 0
theorem wide_Cmp_ok {a b : Nat} : Ev (fun k => wide_Cmp.f k (Hi a) (Lo a) (Hi b) (Lo b)) (cmpN a b) := by
  have c1 : ∀ x y : Int, cmp_Compare_uint64.f x y = some (if x < y then -1 else if x > y then 1 else 0) := by
    intro x y
    unfold cmp_Compare_uint64.f cmp_isNaN_uint64.f
    simp
    split
    · rfl
    · split <;> rfl
  unfold wide_Cmp.f
  refine Ev.bindEq (c1 _ _) (Ev.bindEq (c1 _ _) ?_)
  refine Ev.bind (a := cmpN a b) ?_ (Ev.now _)
  refine ⟨3, fun k hk => ?_⟩
  obtain ⟨k, rfl⟩ : ∃ m, k = m + 3 := ⟨k - 3, by omega⟩
  unfold cmp_Or_int.f
  simp only [cmp_Or_int.l0]
  have w1 : wrap64 (0 + 1) = 1 := by unfold wrap64; omega
  have w2 : wrap64 (1 + 1) = 2 := by unfold wrap64; omega
  have hh : ∀ x y : Int, (if (0 : Int) < 2 then if (0 : Int) ≤ 0 then if (0 : Int) < 2 then if x = 0 then (if (1 : Int) < 2 then if (0 : Int) ≤ 1 then if (1 : Int) < 2 then if y = 0 then some 0 else some y else none else none else some 0) else some x else none else none else some (0 : Int)) = some (if x = 0 then y else x) := by
    intro x y; by_cases hx : x = 0 <;> by_cases hy : y = 0 <;> simp [hx, hy]
  have r0 : ∀ x y : Int, rd [x, y] 0 = x := fun _ _ => rfl
  have r1 : ∀ x y : Int, rd [x, y] 1 = y := fun _ _ => rfl
  have hl : ∀ x y : Int, (([x, y] : List Int).length : Int) = 2 := fun _ _ => rfl
  simp only [r0, w1, r1, w2, hl]
  refine (hh _ _).trans ?_
  congr 1
  obtain ⟨p, hp⟩ : ∃ p : Nat, a / 18446744073709551616 = p := ⟨_, rfl⟩
  obtain ⟨q, hq⟩ : ∃ q : Nat, a % 18446744073709551616 = q := ⟨_, rfl⟩
  obtain ⟨u, hu⟩ : ∃ u : Nat, b / 18446744073709551616 = u := ⟨_, rfl⟩
  obtain ⟨v, hv⟩ : ∃ v : Nat, b % 18446744073709551616 = v := ⟨_, rfl⟩
  have ea : a = 18446744073709551616 * p + q := by omega
  have eb : b = 18446744073709551616 * u + v := by omega
  have hqb : q < 18446744073709551616 := by omega
  have hvb : v < 18446744073709551616 := by omega
  unfold cmpN Hi Lo
  rw [hp, hq, hu, hv]
  clear hp hq hu hv c1 hh
  by_cases h1 : p < u
  · have e1 : (if (p : Int) < u then (-1 : Int) else if (p : Int) > u then 1 else 0) = -1 := if_pos (by omega)
    rw [e1, if_neg (by omega), if_pos (by omega)]
  · by_cases h2 : u < p
    · have e1 : (if (p : Int) < u then (-1 : Int) else if (p : Int) > u then 1 else 0) = 1 := by rw [if_neg (by omega), if_pos (by omega)]
      rw [e1, if_neg (by omega), if_neg (by omega), if_pos (by omega)]
    · have e1 : (if (p : Int) < u then (-1 : Int) else if (p : Int) > u then 1 else 0) = 0 := by rw [if_neg (by omega), if_neg (by omega)]
      rw [e1, if_pos rfl]
      by_cases h3 : q < v
      · have e2 : (if (q : Int) < v then (-1 : Int) else if (q : Int) > v then 1 else 0) = -1 := if_pos (by omega)
        rw [e2, if_pos (by omega)]
      · by_cases h4 : v < q
        · have e2 : (if (q : Int) < v then (-1 : Int) else if (q : Int) > v then 1 else 0) = 1 := by rw [if_neg (by omega), if_pos (by omega)]
          rw [e2, if_neg (by omega), if_pos (by omega)]
        · have e2 : (if (q : Int) < v then (-1 : Int) else if (q : Int) > v then 1 else 0) = 0 := by rw [if_neg (by omega), if_neg (by omega)]
          rw [e2, if_neg (by omega), if_neg (by omega)]

/- shifts -/
theorem shr_ok {x s : Nat} : shr .u64 (x : Int) (s : Int) = ((x / 2 ^ min s 64 : Nat) : Int) := by
  unfold shr
  simp [IntKind.bits]
theorem shl_ok {x s : Nat} : shl .u64 (x : Int) (s : Int) = ((x * 2 ^ min s 64 % 18446744073709551616 : Nat) : Int) := by
  unfold shl
  rw [IntKind.wrap_u64]
  simp [IntKind.bits]
theorem or_ok {x y s : Nat} (hs : s ≤ 64) (hy : y < 2 ^ s) (hx : x * 2 ^ s < 18446744073709551616) : Go.bits .or .u64 ((x * 2 ^ s : Nat) : Int) (y : Int) = ((x * 2 ^ s + y : Nat) : Int) := by
  have h64 : (2 : Nat) ^ s ≤ 2 ^ 64 := Nat.pow_le_pow_right (by omega) hs
  have hy2 : y < 18446744073709551616 := by
    have : (2 : Nat) ^ 64 = 18446744073709551616 := by decide
    omega
  rw [bits_or_u64_nat _ _ hx hy2]
  congr 1
  rw [Nat.mul_comm x, Nat.two_pow_add_eq_or_of_lt hy]
theorem or_comm' (x y : Int) : Go.bits .or .u64 x y = Go.bits .or .u64 y x := by
  unfold Go.bits
  simp [BitVec.or_comm]
end Go.Proofs.YtglcjhjmncolpaaDoor.Q
