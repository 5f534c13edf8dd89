/- Numbers as lists of digits of 16 bits: what the printed functions of package pochoirref02 compute. -/
import Derived.Test.YtglcjhjmncolpaaDoorPf
import Derived.Test.YtglcjhjmncolpaaDoorQx17
namespace Go.Proofs.YtglcjhjmncolpaaDoor.Q
open Go.RowKit Go.Proofs.YtglcjhjmncolpaaDoorW.PrintWords Go.Proofs.YtglcjhjmncolpaaDoorW.PrintLast Go.Proofs.YtglcjhjmncolpaaDoorW.PrintMore

/-- The value of a list of digits, the lowest first. -/
def V : List Int → Nat
  | [] => 0
  | d :: l => d.toNat + 65536 * V l
/-- Digits of 16 bits. -/
def Dig (l : List Int) : Prop := ∀ d ∈ l, 0 ≤ d ∧ d < 65536
/-- The digits of a number, without zeros at the end. -/
def D (n : Nat) : List Int := if h : n = 0 then [] else ((n % 65536 : Nat) : Int) :: D (n / 65536)
termination_by n
decreasing_by omega
theorem D_zero : D 0 = [] := by unfold D; simp
theorem D_pos {n : Nat} (h : n ≠ 0) : D n = ((n % 65536 : Nat) : Int) :: D (n / 65536) := by rw [D]; simp [h]
theorem V_D (n : Nat) : V (D n) = n := by
  induction n using Nat.strongRecOn with
  | _ n ih =>
    by_cases h : n = 0
    · subst h; rw [D_zero]; rfl
    · rw [D_pos h, V, ih (n / 65536) (by omega)]; omega
theorem Dig_D (n : Nat) : Dig (D n) := by
  induction n using Nat.strongRecOn with
  | _ n ih =>
    by_cases h : n = 0
    · subst h; rw [D_zero]; intro d hd; simp at hd
    · rw [D_pos h]
      intro d hd
      rcases List.mem_cons.mp hd with h1 | h1
      · subst h1; omega
      · exact ih (n / 65536) (by omega) d h1
theorem Dig_cons {d : Int} {l : List Int} : Dig (d :: l) ↔ (0 ≤ d ∧ d < 65536) ∧ Dig l := by
  unfold Dig
  exact ⟨fun h => ⟨h d (List.mem_cons_self), fun e he => h e (List.mem_cons_of_mem _ he)⟩, fun h e he => (List.mem_cons.mp he).elim (fun e1 => e1 ▸ h.1) (h.2 e)⟩
theorem Dig_nil : Dig [] := by intro d hd; simp at hd
theorem Dig_append {l m : List Int} : Dig (l ++ m) ↔ Dig l ∧ Dig m := by
  unfold Dig
  exact ⟨fun h => ⟨fun e he => h e (List.mem_append_left _ he), fun e he => h e (List.mem_append_right _ he)⟩, fun h e he => (List.mem_append.mp he).elim (h.1 e) (h.2 e)⟩
theorem Dig_snoc {l : List Int} {d : Int} (h : Dig l) (h0 : 0 ≤ d) (h1 : d < 65536) : Dig (l ++ [d]) := Dig_append.mpr ⟨h, Dig_cons.mpr ⟨⟨h0, h1⟩, Dig_nil⟩⟩
theorem Dig_take {l : List Int} (h : Dig l) (n : Nat) : Dig (l.take n) := fun d hd => h d (List.mem_of_mem_take hd)
theorem Dig_get {l : List Int} (h : Dig l) (i : Nat) : 0 ≤ l.getD i 0 ∧ l.getD i 0 < 65536 := by
  by_cases hi : i < l.length
  · have e : l.getD i 0 = l[i] := by simp [List.getD, hi]
    rw [e]; exact h _ (List.getElem_mem hi)
  · have e : l.getD i 0 = 0 := by simp [List.getD, Nat.not_lt.mp hi]
    rw [e]; omega
theorem V_append (l m : List Int) : V (l ++ m) = V l + 65536 ^ l.length * V m := by
  induction l with
  | nil => simp [V]
  | cons d l ih => simp only [List.cons_append, V, ih, List.length_cons, Nat.pow_succ]; grind
theorem V_snoc (l : List Int) (d : Int) : V (l ++ [d]) = V l + 65536 ^ l.length * d.toNat := by
  rw [V_append]; simp [V]
theorem V_lt {l : List Int} (h : Dig l) : V l < 65536 ^ l.length := by
  induction l with
  | nil => simp [V]
  | cons d l ih =>
    have ⟨h1, h2⟩ := Dig_cons.mp h
    have := ih h2
    simp only [V, List.length_cons, Nat.pow_succ]
    generalize 65536 ^ l.length = p at *
    omega
theorem V_drop (l : List Int) (i : Nat) : V (l.drop i) = (l.getD i 0).toNat + 65536 * V (l.drop (i + 1)) := by
  by_cases hi : i < l.length
  · rw [List.drop_eq_getElem_cons hi, V]
    have e : l.getD i 0 = l[i] := by simp [List.getD, hi]
    rw [e]
  · have h0 := Nat.not_lt.mp hi
    rw [List.drop_eq_nil_of_le h0, List.drop_eq_nil_of_le (by omega)]
    have e : l.getD i 0 = 0 := by simp [List.getD, h0]
    rw [e]; rfl
theorem V_drop_end {l : List Int} {i : Nat} (h : l.length ≤ i) : V (l.drop i) = 0 := by rw [List.drop_eq_nil_of_le h]; rfl
/-- A list without a zero at its end is the digits of its value. -/
theorem D_V {l : List Int} (h : Dig l) (hn : ∀ m, l ≠ m ++ [0]) : D (V l) = l := by
  induction l with
  | nil => exact D_zero
  | cons d l ih =>
    have ⟨h1, h2⟩ := Dig_cons.mp h
    have hl : D (V l) = l := ih h2 (fun m e => hn (d :: m) (by rw [e]; rfl))
    have hp : V (d :: l) ≠ 0 := by
      intro e
      simp only [V] at e
      have e1 : V l = 0 := by omega
      rw [e1, D_zero] at hl
      have e2 : d = 0 := by omega
      exact hn [] (by rw [← hl, e2]; rfl)
    rw [D_pos hp]
    have e1 : V (d :: l) / 65536 = V l := by simp only [V]; omega
    have e2 : ((V (d :: l) % 65536 : Nat) : Int) = d := by simp only [V]; omega
    rw [e1, e2, hl]
theorem D_len {n k : Nat} (h : n < 65536 ^ k) : (D n).length ≤ k := by
  induction k generalizing n with
  | zero => have e : n = 0 := by simp at h; exact h
            subst e; rw [D_zero]; exact Nat.le_refl _
  | succ k ih =>
    by_cases h0 : n = 0
    · subst h0; rw [D_zero]; exact Nat.zero_le _
    · rw [D_pos h0, List.length_cons]
      have := ih (n := n / 65536) (by rw [Nat.pow_succ] at h; omega)
      omega
theorem D_eq_nil {n : Nat} : D n = [] ↔ n = 0 := by
  constructor
  · intro h; have := V_D n; rw [h] at this; exact this.symm
  · intro h; subst h; exact D_zero
theorem D_lenpos {n : Nat} : 0 < (D n).length ↔ 0 < n := by
  have := @D_eq_nil n
  rw [List.length_pos_iff]
  constructor
  · intro h; have := mt this.mpr h; omega
  · intro h; exact mt this.mp (by omega)

theorem w64 {n : Int} (h : -9223372036854775808 ≤ n) (h2 : n < 9223372036854775808) : wrap64 n = n := by unfold wrap64; omega
theorem rd_nat (l : List Int) (i : Nat) : rd l (i : Int) = l.getD i 0 := by unfold rd; rfl
theorem take_snoc {l : List Int} {n : Nat} (h : n < l.length) : l.take (n + 1) = l.take n ++ [l.getD n 0] := by
  have e : l.getD n 0 = l[n] := by simp [List.getD, h]
  rw [e, List.take_succ_eq_append_getElem h]

theorem trim_loop (l : List Int) (hd : Dig l) (hs : l.length < 1000000000) : ∀ n : Nat, n ≤ l.length → Ev (fun k => pochoirref02_trim.l0 k l (n : Int)) (D (V (l.take n))) := by
  intro n
  induction n with
  | zero =>
    intro _
    refine Ev.step (fun k => by rw [pochoirref02_trim.l0]) ?_
    refine Ev.neg (by omega) (Ev.pos (by omega) (Ev.pos (by omega) ?_))
    have e : D (V (l.take 0)) = l.take ((0 : Nat) : Int).toNat := by
      show D (V []) = []
      exact D_zero
    rw [e]; exact Ev.now _
  | succ n ih =>
    intro hn
    have w : wrap64 (((n + 1 : Nat) : Int) - 1) = (n : Int) := by rw [w64 (by omega) (by omega)]; omega
    refine Ev.step (fun k => by rw [pochoirref02_trim.l0]) ?_
    rw [w, rd_nat]
    refine Ev.pos (by omega) (Ev.pos (by omega) (Ev.pos (by omega) ?_))
    by_cases h0 : l.getD n 0 = 0
    · have e : V (l.take (n + 1)) = V (l.take n) := by rw [take_snoc (by omega), V_snoc, h0]; simp
      rw [e]
      exact Ev.pos h0 (ih (by omega))
    · refine Ev.neg h0 (Ev.pos (by omega) (Ev.pos (by omega) ?_))
      have e : D (V (l.take (n + 1))) = l.take ((n + 1 : Nat) : Int).toNat := by
        refine D_V (Dig_take hd _) ?_
        intro m hm
        rw [take_snoc (by omega)] at hm
        have := (List.append_inj' hm rfl).2
        exact h0 (by simpa using this)
      rw [e]; exact Ev.now _
theorem trim_ok {l : List Int} (hd : Dig l) (hs : l.length < 1000000000) : Ev (fun k => pochoirref02_trim.f k l) (D (V l)) := by
  unfold pochoirref02_trim.f
  have := trim_loop l hd hs l.length (Nat.le_refl _)
  rwa [List.take_length] at this
theorem norm_ok {l : List Int} (s : Bool) (hd : Dig l) (hs : l.length < 1000000000) : Ev (fun k => pochoirref02_norm.f k s l) (s && decide (0 < V l), D (V l)) := by
  unfold pochoirref02_norm.f
  refine Ev.bind (trim_ok hd hs) ?_
  cases s
  · exact Ev.neg (by decide) (Ev.now _)
  · refine Ev.pos rfl ?_
    have e : decide (0 < (D (V l)).length) = decide (0 < V l) := by rw [decide_eq_decide]; exact D_lenpos
    rw [e]; exact Ev.now _
theorem at_ok (l : List Int) (i : Nat) : pochoirref02_at.f l (i : Int) = some (l.getD i 0) := by
  unfold pochoirref02_at.f
  by_cases h : i < l.length
  · rw [if_pos (by omega), if_pos (by omega), rd_nat]
  · rw [if_neg (by omega)]
    have e : l.getD i 0 = 0 := by simp [List.getD, Nat.not_lt.mp h]
    rw [e]

theorem u64w {n : Int} (h : 0 ≤ n) (h2 : n < 18446744073709551616) : IntKind.u64.wrap n = n := by rw [IntKind.wrap_u64]; omega

theorem pow_le {a b : Nat} (h : a ≤ b) : 65536 ^ a ≤ 65536 ^ b := Nat.pow_le_pow_right (by omega) h

theorem plus_loop (a b : List Int) (ha : Dig a) (hb : Dig b) (sa : a.length < 1000000) (sb : b.length < 1000000) : ∀ (m : Nat) (o : List Int) (c : Nat),
    2 * (max a.length b.length - o.length) + c ≤ m → o.length + c ≤ max a.length b.length + 1 → c ≤ 1 → Dig o →
    ∃ r, Ev (fun k => pochoirref02_plus.l0 k a b o (c : Int) (o.length : Int)) r ∧ Dig r ∧ r.length ≤ max a.length b.length + 2 ∧ V r = V o + 65536 ^ o.length * (c + V (a.drop o.length) + V (b.drop o.length)) := by
  intro m
  induction m with
  | zero =>
    intro o c hm ho hc hd
    have h1 : ¬ ((o.length : Int) < (a.length : Int)) := by omega
    have h2 : ¬ ((o.length : Int) < (b.length : Int)) := by omega
    have h3 : c = 0 := by omega
    subst h3
    refine ⟨o, ?_, hd, by omega, ?_⟩
    · refine Ev.step (fun k => by rw [pochoirref02_plus.l0]) (Ev.neg h1 (Ev.neg h2 ?_))
      refine Ev.step (fun k => by rw [pochoirref02_plus.j1]) (Ev.neg (by simp) (Ev.now _))
    · rw [V_drop_end (by omega), V_drop_end (by omega)]; omega
  | succ m ih =>
    intro o c hm ho hc hd
    obtain ⟨x, hx⟩ : ∃ x : Nat, (x : Int) = a.getD o.length 0 := ⟨(a.getD o.length 0).toNat, by have := Dig_get ha o.length; omega⟩
    obtain ⟨y, hy⟩ : ∃ y : Nat, (y : Int) = b.getD o.length 0 := ⟨(b.getD o.length 0).toNat, by have := Dig_get hb o.length; omega⟩
    have hx2 : x < 65536 := by have := Dig_get ha o.length; omega
    have hy2 : y < 65536 := by have := Dig_get hb o.length; omega
    by_cases hgo : o.length < max a.length b.length ∨ c > 0
    · have hgo2 : o.length ≤ max a.length b.length := by omega
      have hend : max a.length b.length ≤ o.length → x = 0 ∧ y = 0 := by
        intro hq
        have z1 : a.getD o.length 0 = 0 := by simp [List.getD, (by omega : a.length ≤ o.length)]
        have z2 : b.getD o.length 0 = 0 := by simp [List.getD, (by omega : b.length ≤ o.length)]
        omega
      have hc2 : (x + y + c) / 65536 ≤ 1 := by clear hx hy; omega
      have hm2 : 2 * (max a.length b.length - (o.length + 1)) + (x + y + c) / 65536 ≤ m := by
        clear hx hy
        by_cases hq : max a.length b.length ≤ o.length
        · have := hend hq; omega
        · omega
      have ho2 : o.length + 1 + (x + y + c) / 65536 ≤ max a.length b.length + 1 := by
        clear hx hy
        by_cases hq : max a.length b.length ≤ o.length
        · have := hend hq; omega
        · omega
      have e1 : IntKind.u64.wrap (IntKind.u64.wrap ((x : Int) + y) + c) = ((x + y + c : Nat) : Int) := by rw [u64w (n := (x : Int) + y) (by omega) (by omega), u64w (by omega) (by omega)]; omega
      have e2 : Int.tmod ((x + y + c : Nat) : Int) 65536 = (((x + y + c) % 65536 : Nat) : Int) := by rw [Int.tmod_eq_emod_of_nonneg (by omega)]; omega
      have e3 : IntKind.u64.wrap (Int.tdiv ((x + y + c : Nat) : Int) 65536) = (((x + y + c) / 65536 : Nat) : Int) := by
        rw [Int.tdiv_eq_ediv_of_nonneg (by omega), u64w (by omega) (by omega)]; omega
      have e4 : wrap64 ((o.length : Int) + 1) = ((o ++ [(((x + y + c) % 65536 : Nat) : Int)]).length : Int) := by
        rw [w64 (by omega) (by omega), List.length_append]; simp
      have hl : (o ++ [(((x + y + c) % 65536 : Nat) : Int)]).length = o.length + 1 := by simp
      obtain ⟨r, hr, hdr, hlr, hvr⟩ := ih (o ++ [(((x + y + c) % 65536 : Nat) : Int)]) ((x + y + c) / 65536) (by rw [hl]; exact hm2) (by rw [hl]; exact ho2) hc2 (Dig_snoc hd (by omega) (by omega))
      refine ⟨r, ?_, hdr, hlr, ?_⟩
      · have go : Ev (fun k => pochoirref02_plus.j1 k a b o (c : Int) (o.length : Int) true) r := by
          refine Ev.step (fun k => by rw [pochoirref02_plus.j1]) (Ev.pos rfl ?_)
          refine Ev.bindEq (at_ok a o.length) (Ev.bindEq (at_ok b o.length) ?_)
          refine Ev.pos (by omega) ?_
          rw [← hx, ← hy, e1, e2, e3, e4]
          exact hr
        refine Ev.step (fun k => by rw [pochoirref02_plus.l0]) ?_
        by_cases h1 : (o.length : Int) < (a.length : Int)
        · exact Ev.pos h1 go
        · by_cases h2 : (o.length : Int) < (b.length : Int)
          · exact Ev.neg h1 (Ev.pos h2 go)
          · have h3 : decide ((c : Int) > 0) = true := by rw [decide_eq_true_iff]; omega
            refine Ev.neg h1 (Ev.neg h2 ?_)
            rw [h3]
            exact go
      · rw [hvr, hl, V_snoc, V_drop a o.length, V_drop b o.length, ← hx, ← hy, Nat.pow_succ]
        have e5 : ((x : Int)).toNat = x := by omega
        have e6 : ((y : Int)).toNat = y := by omega
        have e7 : ((((x + y + c) % 65536 : Nat) : Int)).toNat = (x + y + c) % 65536 := by omega
        rw [e5, e6, e7]
        have e8 : x + y + c = 65536 * ((x + y + c) / 65536) + (x + y + c) % 65536 := by omega
        generalize (x + y + c) / 65536 = q at *
        generalize (x + y + c) % 65536 = p at *
        generalize 65536 ^ o.length = z at *
        grind
    · have h1 : ¬ ((o.length : Int) < (a.length : Int)) := by omega
      have h2 : ¬ ((o.length : Int) < (b.length : Int)) := by omega
      have h3 : c = 0 := by omega
      subst h3
      refine ⟨o, ?_, hd, by omega, ?_⟩
      · refine Ev.step (fun k => by rw [pochoirref02_plus.l0]) (Ev.neg h1 (Ev.neg h2 ?_))
        refine Ev.step (fun k => by rw [pochoirref02_plus.j1]) (Ev.neg (by simp) (Ev.now _))
      · rw [V_drop_end (by omega), V_drop_end (by omega)]; omega
theorem plus_ok {a b : List Int} (ha : Dig a) (hb : Dig b) (sa : a.length < 1000000) (sb : b.length < 1000000) :
    ∃ r, Ev (fun k => pochoirref02_plus.f k a b) r ∧ Dig r ∧ r.length ≤ max a.length b.length + 2 ∧ V r = V a + V b := by
  obtain ⟨r, h1, h2, h3, h4⟩ := plus_loop a b ha hb sa sb _ [] 0 (Nat.le_refl _) (by simp) (by omega) Dig_nil
  refine ⟨r, h1, h2, h3, ?_⟩
  rw [h4]; simp [V]

theorem minus_loop (a b : List Int) (ha : Dig a) (hb : Dig b) (sa : a.length < 1000000) : ∀ (m : Nat) (o : List Int) (c : Nat),
    a.length - o.length ≤ m → o.length ≤ a.length → c ≤ 1 → Dig o →
    ∃ r, Ev (fun k => pochoirref02_minus.l0 k a b o (c : Int) (o.length : Int)) r ∧ Dig r ∧ r.length = a.length ∧ ∃ c2 : Nat,
      V r + 65536 ^ o.length * (c + V (b.drop o.length)) = V o + 65536 ^ o.length * V (a.drop o.length) + 65536 ^ a.length * (c2 + V (b.drop a.length)) := by
  intro m
  induction m with
  | zero =>
    intro o c hm ho hc hd
    have h1 : ¬ ((o.length : Int) < (a.length : Int)) := by omega
    refine ⟨o, ?_, hd, by omega, c, ?_⟩
    · exact Ev.step (fun k => by rw [pochoirref02_minus.l0]) (Ev.neg h1 (Ev.now _))
    · have e : o.length = a.length := by omega
      rw [e, V_drop_end (Nat.le_refl a.length)]; omega
  | succ m ih =>
    intro o c hm ho hc hd
    by_cases h1 : o.length < a.length
    · obtain ⟨x, hx⟩ : ∃ x : Nat, (x : Int) = a.getD o.length 0 := ⟨(a.getD o.length 0).toNat, by have := Dig_get ha o.length; omega⟩
      obtain ⟨y, hy⟩ : ∃ y : Nat, (y : Int) = b.getD o.length 0 := ⟨(b.getD o.length 0).toNat, by have := Dig_get hb o.length; omega⟩
      have hx2 : x < 65536 := by have := Dig_get ha o.length; omega
      have hy2 : y < 65536 := by have := Dig_get hb o.length; omega
      have e1 : IntKind.u64.wrap (IntKind.u64.wrap (IntKind.u64.wrap (65536 + (x : Int)) - y) - c) = ((65536 + x - y - c : Nat) : Int) := by
        rw [u64w (n := 65536 + (x : Int)) (by omega) (by omega), u64w (n := 65536 + (x : Int) - y) (by omega) (by omega), u64w (by omega) (by omega)]; omega
      have e2 : Int.tmod ((65536 + x - y - c : Nat) : Int) 65536 = (((65536 + x - y - c) % 65536 : Nat) : Int) := by rw [Int.tmod_eq_emod_of_nonneg (by omega)]; omega
      have e3 : IntKind.u64.wrap (1 - IntKind.u64.wrap (Int.tdiv ((65536 + x - y - c : Nat) : Int) 65536)) = ((1 - (65536 + x - y - c) / 65536 : Nat) : Int) := by
        rw [Int.tdiv_eq_ediv_of_nonneg (by omega), u64w (n := _ / _) (by omega) (by omega), u64w (by omega) (by omega)]; omega
      have e4 : wrap64 ((o.length : Int) + 1) = ((o ++ [(((65536 + x - y - c) % 65536 : Nat) : Int)]).length : Int) := by
        rw [w64 (by omega) (by omega), List.length_append]; simp
      have hl : (o ++ [(((65536 + x - y - c) % 65536 : Nat) : Int)]).length = o.length + 1 := by simp
      obtain ⟨r, hr, hdr, hlr, c2, hvr⟩ := ih (o ++ [(((65536 + x - y - c) % 65536 : Nat) : Int)]) (1 - (65536 + x - y - c) / 65536) (by rw [hl]; omega) (by rw [hl]; omega) (by omega) (Dig_snoc hd (by omega) (by omega))
      refine ⟨r, ?_, hdr, hlr, c2, ?_⟩
      · refine Ev.step (fun k => by rw [pochoirref02_minus.l0]) (Ev.pos (by omega) (Ev.pos (by omega) ?_))
        refine Ev.bindEq (at_ok b o.length) (Ev.pos (by omega) ?_)
        rw [rd_nat, ← hx, ← hy, e1, e2, e3, e4]
        exact hr
      · rw [hl, V_snoc] at hvr
        rw [V_drop a o.length, V_drop b o.length, ← hx, ← hy]
        rw [Nat.pow_succ] at hvr
        have e5 : ((x : Int)).toNat = x := by omega
        have e6 : ((y : Int)).toNat = y := by omega
        have e7 : ((((65536 + x - y - c) % 65536 : Nat) : Int)).toNat = (65536 + x - y - c) % 65536 := by omega
        rw [e5, e6]
        rw [e7] at hvr
        have e8 : x + 65536 * (1 - (65536 + x - y - c) / 65536) = y + c + (65536 + x - y - c) % 65536 := by omega
        generalize (1 - (65536 + x - y - c) / 65536) = q at *
        generalize (65536 + x - y - c) % 65536 = p at *
        generalize 65536 ^ o.length = z at *
        grind
    · refine ⟨o, ?_, hd, by omega, c, ?_⟩
      · exact Ev.step (fun k => by rw [pochoirref02_minus.l0]) (Ev.neg (by omega) (Ev.now _))
      · have e : o.length = a.length := by omega
        rw [e, V_drop_end (Nat.le_refl a.length)]; omega
theorem minus_ok {a b : List Int} (ha : Dig a) (hb : Dig b) (sa : a.length < 1000000) (hle : V b ≤ V a) :
    ∃ r, Ev (fun k => pochoirref02_minus.f k a b) r ∧ Dig r ∧ r.length = a.length ∧ V r = V a - V b := by
  obtain ⟨r, h1, h2, h3, c2, h4⟩ := minus_loop a b ha hb sa _ [] 0 (Nat.le_refl _) (by simp) (by omega) Dig_nil
  refine ⟨r, h1, h2, h3, ?_⟩
  simp [V] at h4
  have h5 := V_lt h2
  rw [h3] at h5
  by_cases h6 : c2 + V (b.drop a.length) = 0
  · rw [h6] at h4; omega
  · have := Nat.le_mul_of_pos_right (65536 ^ a.length) (Nat.pos_of_ne_zero h6)
    omega

/-- The digit i of a number. -/
theorem D_get (n i : Nat) : (D n).getD i 0 = ((n / 65536 ^ i % 65536 : Nat) : Int) := by
  induction i generalizing n with
  | zero =>
    by_cases h : n = 0
    · subst h; rw [D_zero]; simp
    · rw [D_pos h]; simp
  | succ i ih =>
    by_cases h : n = 0
    · subst h; rw [D_zero]; simp
    · rw [D_pos h, List.getD_cons_succ, ih (n / 65536), Nat.pow_succ, Nat.mul_comm (65536 ^ i), Nat.div_div_eq_div_mul]
theorem D_lt (n : Nat) : n < 65536 ^ (D n).length := by have := V_lt (Dig_D n); rwa [V_D] at this
theorem D_ge {n : Nat} (h : n ≠ 0) : 65536 ^ ((D n).length - 1) ≤ n := by
  refine Nat.le_of_not_lt fun hlt => ?_
  have := D_len hlt
  have h2 : 0 < (D n).length := D_lenpos.mpr (by omega)
  omega
theorem D_mono {a b : Nat} (h : a ≤ b) : (D a).length ≤ (D b).length := D_len (Nat.lt_of_le_of_lt h (D_lt b))

theorem less_loop (a b : Nat) : ∀ n : Nat, n ≤ (D a).length → n ≤ (D b).length → n < 1000000 → a / 65536 ^ n = b / 65536 ^ n → Ev (fun k => pochoirref02_less.l0 k (D a) (D b) ((n : Int) - 1)) (cmpN a b) := by
  intro n
  induction n with
  | zero =>
    intro _ _ _ h
    simp at h
    subst h
    refine Ev.step (fun k => by rw [pochoirref02_less.l0]) (Ev.neg (by omega) ?_)
    have e : cmpN a a = 0 := by unfold cmpN; simp
    rw [e]; exact Ev.now _
  | succ n ih =>
    intro h1 h2 h3 h
    have e1 : ((n + 1 : Nat) : Int) - 1 = (n : Int) := by omega
    have e2 : wrap64 ((n : Int) - 1) = (n : Int) - 1 := w64 (by omega) (by omega)
    refine Ev.step (fun k => by rw [pochoirref02_less.l0]) ?_
    rw [e1, rd_nat, rd_nat, D_get, D_get, e2]
    refine Ev.pos (by omega) (Ev.pos (by omega) (Ev.pos (by omega) (Ev.pos (by omega) ?_)))
    have q1 : a / 65536 ^ (n + 1) = a / 65536 ^ n / 65536 := by rw [Nat.pow_succ, Nat.div_div_eq_div_mul]
    have q2 : b / 65536 ^ (n + 1) = b / 65536 ^ n / 65536 := by rw [Nat.pow_succ, Nat.div_div_eq_div_mul]
    rw [q1, q2] at h
    have hle : ∀ x y : Nat, x / 65536 ^ n < y / 65536 ^ n → x < y := by
      intro x y hxy
      refine Nat.lt_of_not_le fun hh => ?_
      have := Nat.div_le_div_right (c := 65536 ^ n) hh
      omega
    by_cases c1 : a / 65536 ^ n < b / 65536 ^ n
    · have e : cmpN a b = -1 := by unfold cmpN; rw [if_pos (hle _ _ c1)]
      rw [e]
      exact Ev.pos (by omega) (Ev.now _)
    · by_cases c2 : b / 65536 ^ n < a / 65536 ^ n
      · have e : cmpN a b = 1 := by unfold cmpN; have := hle _ _ c2; rw [if_neg (by omega), if_pos this]
        rw [e]
        exact Ev.neg (by omega) (Ev.pos (by omega) (Ev.now _))
      · exact Ev.neg (by omega) (Ev.neg (by omega) (ih (by omega) (by omega) (by omega) (by omega)))
theorem less_ok {a b : Nat} (sa : (D a).length < 1000000) : Ev (fun k => pochoirref02_less.f k (D a) (D b)) (cmpN a b) := by
  unfold pochoirref02_less.f
  by_cases h : (D a).length = (D b).length
  · refine Ev.pos (by omega) ?_
    rw [w64 (n := ((D a).length : Int) - 1) (by omega) (by omega)]
    refine less_loop a b (D a).length (Nat.le_refl _) (by omega) sa ?_
    rw [Nat.div_eq_of_lt (D_lt a), h, Nat.div_eq_of_lt (D_lt b)]
  · refine Ev.neg (by omega) ?_
    by_cases h2 : (D a).length < (D b).length
    · have : a < b := Nat.lt_of_not_le fun hh => by have := D_mono hh; omega
      have e : cmpN a b = -1 := by unfold cmpN; rw [if_pos this]
      rw [e]; exact Ev.pos (by omega) (Ev.now _)
    · have : b < a := Nat.lt_of_not_le fun hh => by have := D_mono hh; omega
      have e : cmpN a b = 1 := by unfold cmpN; rw [if_neg (by omega), if_pos this]
      rw [e]; exact Ev.neg (by omega) (Ev.now _)

/-- A whole number as a sign and digits. -/
def Sg (n : Int) : Bool := decide (n < 0)
def Mg (n : Int) : List Int := D n.natAbs
/-- How many digits there are at most. -/
def Sm (n : Int) : Prop := (Mg n).length < 1000
theorem Sm_of {n : Int} {k : Nat} (hk : k < 1000) (h : n.natAbs < 65536 ^ k) : Sm n := by
  have := D_len h
  unfold Sm Mg; omega
theorem zero_lt_dec {n : Nat} {s : Bool} {z : Int} (hz : z.natAbs = n) (hs : n ≠ 0 → s = decide (z < 0)) : (s && decide (0 < n)) = Sg z := by
  unfold Sg
  by_cases h : n = 0
  · have e : z = 0 := by omega
    subst h; subst e; simp
  · rw [hs h]
    have : decide (0 < n) = true := by rw [decide_eq_true_iff]; omega
    rw [this, Bool.and_true]
theorem normI {l : List Int} {s : Bool} {z : Int} (hd : Dig l) (hl : l.length < 1000000000) (hz : V l = z.natAbs) (hs : z ≠ 0 → s = decide (z < 0)) : Ev (fun k => pochoirref02_norm.f k s l) (Sg z, Mg z) := by
  have := norm_ok s hd hl
  rw [zero_lt_dec hz.symm (fun h => hs (by omega)), hz] at this
  exact this
theorem Of_ok {n : Int} (h : I64 n) : Ev (fun k => pochoirref02_Of.f k n) (Sg n, Mg n) := by
  unfold I64 at h
  have key : ∀ u : Int, 0 ≤ u → u < 18446744073709551616 → Dig [Int.tmod u 65536, Int.tmod (IntKind.u64.wrap (Int.tdiv u 65536)) 65536, Int.tmod (IntKind.u64.wrap (Int.tdiv u 4294967296)) 65536, IntKind.u64.wrap (Int.tdiv u 281474976710656)]
      ∧ V [Int.tmod u 65536, Int.tmod (IntKind.u64.wrap (Int.tdiv u 65536)) 65536, Int.tmod (IntKind.u64.wrap (Int.tdiv u 4294967296)) 65536, IntKind.u64.wrap (Int.tdiv u 281474976710656)] = u.toNat := by
    intro u h0 h1
    rw [Int.tdiv_eq_ediv_of_nonneg h0, Int.tdiv_eq_ediv_of_nonneg h0, Int.tdiv_eq_ediv_of_nonneg h0, u64w (n := u / 65536) (by omega) (by omega), u64w (n := u / 4294967296) (by omega) (by omega), u64w (n := u / 281474976710656) (by omega) (by omega),
      Int.tmod_eq_emod_of_nonneg h0, Int.tmod_eq_emod_of_nonneg (by omega), Int.tmod_eq_emod_of_nonneg (by omega)]
    refine ⟨Dig_cons.mpr ⟨by omega, Dig_cons.mpr ⟨by omega, Dig_cons.mpr ⟨by omega, Dig_cons.mpr ⟨by omega, Dig_nil⟩⟩⟩⟩, ?_⟩
    simp only [V]
    omega
  unfold pochoirref02_Of.f
  by_cases h0 : n < 0
  · have e : IntKind.u64.wrap (-(IntKind.u64.wrap n)) = (n.natAbs : Int) := by rw [IntKind.wrap_u64, IntKind.wrap_u64]; omega
    rw [e]
    obtain ⟨k1, k2⟩ := key (n.natAbs : Int) (by omega) (by omega)
    refine Ev.pos h0 (Ev.bind (normI (z := n) k1 (by simp) (by rw [k2]; omega) (fun _ => by simp [h0])) (Ev.now _))
  · have e : IntKind.u64.wrap n = (n.natAbs : Int) := by rw [IntKind.wrap_u64]; omega
    rw [e]
    obtain ⟨k1, k2⟩ := key (n.natAbs : Int) (by omega) (by omega)
    refine Ev.neg h0 (Ev.bind (normI (z := n) k1 (by simp) (by rw [k2]; omega) (fun _ => by simp [h0])) (Ev.now _))
theorem Neg_ok {z : Int} (h : Sm z) : Ev (fun k => pochoirref02_Neg.f k (Sg z) (Mg z)) (Sg (-z), Mg (-z)) := by
  unfold pochoirref02_Neg.f
  unfold Sm at h
  refine Ev.bind (normI (l := Mg z) (z := -z) (Dig_D _) (by have := h; omega) (by show V (D z.natAbs) = _; rw [V_D]; omega) (fun hz => ?_)) (Ev.now _)
  unfold Sg
  rw [← decide_not, decide_eq_decide]; omega
theorem Add_ok {x y : Int} (hx : Sm x) (hy : Sm y) : Ev (fun k => pochoirref02_Add.f k (Sg x) (Mg x) (Sg y) (Mg y)) (Sg (x + y), Mg (x + y)) := by
  unfold Sm at hx hy
  unfold Mg at hx hy
  unfold pochoirref02_Add.f
  have vx : V (Mg x) = x.natAbs := V_D _
  have vy : V (Mg y) = y.natAbs := V_D _
  by_cases hs : Sg x = Sg y
  · refine Ev.pos (by rw [hs]; simp) ?_
    obtain ⟨r, r1, r2, r3, r4⟩ := plus_ok (Dig_D x.natAbs) (Dig_D y.natAbs) (by omega) (by omega)
    refine Ev.bind r1 (Ev.bind (normI (z := x + y) r2 (by omega) ?_ ?_) (Ev.now _))
    · rw [r4, V_D, V_D]
      unfold Sg at hs; rw [decide_eq_decide] at hs; omega
    · intro hz; unfold Sg at *; rw [decide_eq_decide] at *; omega
  · refine Ev.neg (by simp [hs]) ?_
    refine Ev.bind (less_ok (by omega)) ?_
    have hs2 : ¬ (x < 0 ↔ y < 0) := by unfold Sg at hs; rwa [decide_eq_decide] at hs
    by_cases hl : x.natAbs < y.natAbs
    · have e : cmpN x.natAbs y.natAbs = -1 := by unfold cmpN; rw [if_pos hl]
      rw [e]
      refine Ev.neg (by omega) ?_
      obtain ⟨r, r1, r2, r3, r4⟩ := minus_ok (a := D y.natAbs) (b := D x.natAbs) (Dig_D _) (Dig_D _) (by omega) (by rw [V_D, V_D]; omega)
      refine Ev.bind r1 (Ev.bind (normI (z := x + y) r2 (by omega) ?_ ?_) (Ev.now _))
      · rw [r4, V_D, V_D]; omega
      · intro hz; unfold Sg; rw [decide_eq_decide]; omega
    · have e : cmpN x.natAbs y.natAbs ≥ 0 := by unfold cmpN; rw [if_neg hl]; split <;> omega
      refine Ev.pos e ?_
      obtain ⟨r, r1, r2, r3, r4⟩ := minus_ok (a := D x.natAbs) (b := D y.natAbs) (Dig_D _) (Dig_D _) (by omega) (by rw [V_D, V_D]; omega)
      refine Ev.bind r1 (Ev.bind (normI (z := x + y) r2 (by omega) ?_ ?_) (Ev.now _))
      · rw [r4, V_D, V_D]; omega
      · intro hz; unfold Sg; rw [decide_eq_decide]; omega
theorem Sub_ok {x y : Int} (hx : Sm x) (hy : Sm y) : Ev (fun k => pochoirref02_Sub.f k (Sg x) (Mg x) (Sg y) (Mg y)) (Sg (x - y), Mg (x - y)) := by
  unfold pochoirref02_Sub.f
  have hy2 : Sm (-y) := by unfold Sm Mg at *; rwa [Int.natAbs_neg]
  refine Ev.bind (Neg_ok hy) (Ev.bind (Add_ok hx hy2) ?_)
  have e : x + -y = x - y := by omega
  rw [e]; exact Ev.now _
theorem Sign_ok (z : Int) : pochoirref02_Sign.f (Sg z) (Mg z) = some z.sign := by
  unfold pochoirref02_Sign.f
  by_cases h : z = 0
  · subst h
    have : (Mg 0).length = 0 := by unfold Mg; rw [show (0 : Int).natAbs = 0 from rfl, D_zero]; rfl
    rw [if_pos (by omega)]; rfl
  · have h1 : 0 < (Mg z).length := D_lenpos.mpr (by omega)
    rw [if_neg (by omega)]
    unfold Sg
    by_cases h2 : z < 0
    · rw [if_pos (by simp [h2]), Int.sign_eq_neg_one_of_neg h2]
    · rw [if_neg (by simp [h2]), Int.sign_eq_one_of_pos (by omega)]
theorem Cmp_ok {x y : Int} (hx : Sm x) (hy : Sm y) : Ev (fun k => pochoirref02_Cmp.f k (Sg x) (Mg x) (Sg y) (Mg y)) (x - y).sign := by
  unfold pochoirref02_Cmp.f
  exact Ev.bind (Sub_ok hx hy) (Ev.bindEq (Sign_ok _) (Ev.now _))

end Go.Proofs.YtglcjhjmncolpaaDoor.Q
