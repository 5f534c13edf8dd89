/- Contracts of the library functions that the printed functions of this seat call and that are not printed themselves: Add64, Sub64 (model entries), TrailingZeros64 (reads a table), FormatInt in base 10 (reads a table). 'Glob': the two tables read as the program's text lays them. -/
import Derived.Test.YtglcjhjmncolpaaDoorShelf
import Derived.Test.YtglcjhjmncolpaaDoorVMore
import Derived.Shelf.Spec.TrailingZeros
import Derived.Shelf.Spec.BitsCarry
import Derived.Lib.AppendIntMem
import Derived.WalkKit
import Derived.KernelRfl
namespace Go.Proofs.YtglcjhjmncolpaaDoor.Q
open Go.RowKit Go.Proofs.YtglcjhjmncolpaaDoorW.PrintWords Go.Proofs.YtglcjhjmncolpaaDoorW.PrintLast Go.Proofs.YtglcjhjmncolpaaDoorW.PrintMore

def tab64 : List Int := Lib.deBruijn64tab.map (fun (n : Nat) => (n : Int))
/-- The package-level tables that are read. -/
def Glob (w : World) : Prop := Lib.TabIs Tryd.prog w "math/bits.deBruijn64tab" .u8 tab64 ∧ Lib.TabIs Tryd.prog w "internal/strconv.uint64pow10" .u64 Lib.pow10Tab
theorem Glob.step {w w' : World} (h : Glob w) (hb : Below w.heap.size w w') : Glob w' :=
  ⟨Lib.tabBelow_of_tabIs h.1 w' hb, Lib.tabBelow_of_tabIs h.2 w' hb⟩

/-- A call of a function that the model stands in for: it ends at once. -/
def XCalls (P : Program) (f : FuncId) (args : Array Value) (w : World) (R : Ending → World → Prop) : Prop :=
  ∃ v w', (callFunc f args).run P w = .ok (.value v) w' ∧ R (.returned v) w'
theorem XCalls.mono {P : Program} {f : FuncId} {args : Array Value} {w : World} {R R' : Ending → World → Prop} (h : XCalls P f args w R) (hr : ∀ e w', R e w' → R' e w') : XCalls P f args w R' := by
  obtain ⟨v, w', h1, h2⟩ := h
  exact ⟨v, w', h1, hr _ _ h2⟩
section
variable {P : Program} {ops : Array Oper} {Q : Exit → Act → World → Prop}
theorem goesX_ {rest : List Oper} {oi : Oper} {a : Act} {w : World} (N : Option Tmp) (hd : oi.dst = N) (hg : oi.guard = none) {f : FuncId} {xs : Array Operand} {ts : Array TypeId} (args : Array Value)
    (hop : oi.op = .call { callee := .value (.func f), args := xs, argTypes := ts }) (hargs : xs.map a.eval = args)
    (h : XCalls P f args w fun e w' => ∃ v, e = .returned v ∧ wpList P ops Q rest (a.put N v) w') : wpList P ops Q (oi :: rest) a w := by
  refine wpList_plain hg fun K hK => ?_
  obtain ⟨v, w', he, v', hv, hk⟩ := h
  have hrun : (execOp a.eval oi).run P w = .ok (.value v) w' := by
    unfold execOp
    simp [hop, resolve, Deferred.ofValue, invoke, Act.eval, hargs, he]
  unfold Oper.wp
  rw [hrun]
  injection hv with hv
  subst hv
  subst hd
  exact hK _ _ hk
end

def u64ok (a : Int) : Prop := 0 ≤ a ∧ a < 18446744073709551616
instance (a : Int) : Decidable (u64ok a) := inferInstanceAs (Decidable (_ ∧ _))

def bits_Add64.f (a b c : Int) : Option (Int × Int) :=
  if u64ok a ∧ u64ok b ∧ 0 ≤ c ∧ c ≤ 1 then some ((a + b + c) % 18446744073709551616, (a + b + c) / 18446744073709551616) else none
theorem bits_Add64.same (a b c r1 r2 : Int) (w : World) (h : bits_Add64.f a b c = some (r1, r2)) :
    XCalls Tryd.prog 74 #[.int .u64 a, .int .u64 b, .int .u64 c] w fun e w' => e = .returned (.tuple #[.int .u64 r1, .int .u64 r2]) ∧ w = w' := by
  unfold bits_Add64.f at h
  split at h
  · rename_i hc
    obtain ⟨⟨h1, h2⟩, ⟨h3, h4⟩, h5, h6⟩ := hc
    simp only [Option.some.injEq, Prod.mk.injEq] at h
    obtain ⟨rfl, rfl⟩ := h
    obtain ⟨x, rfl⟩ := Int.eq_ofNat_of_zero_le h1
    obtain ⟨y, rfl⟩ := Int.eq_ofNat_of_zero_le h3
    obtain ⟨z, rfl⟩ := Int.eq_ofNat_of_zero_le h5
    refine ⟨_, w, ?_, rfl, rfl⟩
    rw [run_callFunc_extern Tryd.func74 (by kernel_rfl) (by kernel_rfl) (by kernel_rfl) (e := add64Entry) (by kernel_rfl), run_add64 x y z (by omega) (by omega) (by omega) (by omega)]
    simp only [Result.andThen]
  · cases h
theorem bits_Add64.calls (a b c r1 r2 : Int) (w : World) (h : bits_Add64.f a b c = some (r1, r2)) :
    XCalls Tryd.prog 74 #[.int .u64 a, .int .u64 b, .int .u64 c] w fun e w' => e = .returned (.tuple #[.int .u64 r1, .int .u64 r2]) ∧ Drawn0 w w' := by
  refine (bits_Add64.same a b c r1 r2 w h).mono ?_
  rintro e w' ⟨rfl, rfl⟩
  exact ⟨rfl, Drawn0.refl _⟩

def bits_Sub64.f (a b c : Int) : Option (Int × Int) :=
  if u64ok a ∧ u64ok b ∧ 0 ≤ c ∧ c ≤ 1 then some ((a - b - c) % 18446744073709551616, if a < b + c then 1 else 0) else none
theorem bits_Sub64.same (a b c r1 r2 : Int) (w : World) (h : bits_Sub64.f a b c = some (r1, r2)) :
    XCalls Tryd.prog 70 #[.int .u64 a, .int .u64 b, .int .u64 c] w fun e w' => e = .returned (.tuple #[.int .u64 r1, .int .u64 r2]) ∧ w = w' := by
  unfold bits_Sub64.f at h
  split at h
  · rename_i hc
    obtain ⟨⟨h1, h2⟩, ⟨h3, h4⟩, h5, h6⟩ := hc
    simp only [Option.some.injEq, Prod.mk.injEq] at h
    obtain ⟨rfl, rfl⟩ := h
    obtain ⟨x, rfl⟩ := Int.eq_ofNat_of_zero_le h1
    obtain ⟨y, rfl⟩ := Int.eq_ofNat_of_zero_le h3
    obtain ⟨z, rfl⟩ := Int.eq_ofNat_of_zero_le h5
    refine ⟨_, w, ?_, rfl, rfl⟩
    rw [run_callFunc_extern Tryd.func70 (by kernel_rfl) (by kernel_rfl) (by kernel_rfl) (e := sub64Entry) (by kernel_rfl), run_sub64 x y z (by omega)]
    simp only [Result.andThen]
    have e1 : (((x + 18446744073709551616 - y - z) % 18446744073709551616 : Nat) : Int) = ((x : Int) - y - z) % 18446744073709551616 := by omega
    have e2 : ((if x < y + z then 1 else 0 : Nat) : Int) = (if (x : Int) < y + z then 1 else 0) := by split <;> split <;> omega
    rw [e1, e2]
  · cases h
theorem bits_Sub64.calls (a b c r1 r2 : Int) (w : World) (h : bits_Sub64.f a b c = some (r1, r2)) :
    XCalls Tryd.prog 70 #[.int .u64 a, .int .u64 b, .int .u64 c] w fun e w' => e = .returned (.tuple #[.int .u64 r1, .int .u64 r2]) ∧ Drawn0 w w' := by
  refine (bits_Sub64.same a b c r1 r2 w h).mono ?_
  rintro e w' ⟨rfl, rfl⟩
  exact ⟨rfl, Drawn0.refl _⟩

def bits_TrailingZeros64.f (a : Int) : Option Int := if u64ok a then some (Lib.ctz 64 a.toNat : Int) else none
set_option maxHeartbeats 1000000 in
theorem tz_core (x k idx : Nat) (w : World) (hx0 : ((x : Int) == 0) = false)
    (key : IntKind.u64.wrap (bits BinOp.and IntKind.u64 (x : Int) (IntKind.u64.wrap (-(x : Int))) * 285870213051353865) / 288230376151711744 = (idx : Int))
    (hi : idx < 64) (hk : k < 64) (hcell : w.cell? ⟨0, idx, none⟩ = some (.int .u8 k)) :
    Calls Tryd.prog 66 #[.int .u64 x] w fun e w' => e = .returned (.int .i64 k) ∧ w = w' := by
  go_enter Tryd.func66, Tryd.ntmps66
  go_wp2_with (simp only [key])
  go_ret
  exact ⟨rfl, rfl⟩
theorem tz_zero (w : World) : Calls Tryd.prog 66 #[.int .u64 0] w fun e w' => e = .returned (.int .i64 64) ∧ w = w' := by
  go_enter Tryd.func66, Tryd.ntmps66
  go_wp2
  go_ret
  exact ⟨rfl, rfl⟩
theorem tab64_cell {w : World} (h : Glob w) (i : Nat) (hi : i < 64) : w.cell? ⟨0, i, none⟩ = some (.int .u8 (Lib.deBruijn64tab.getD i 0)) := by
  have := h.1.cell (g := 0) (by kernel_rfl) i (by simpa [tab64, Lib.deBruijn64tab] using hi)
  rw [this]
  have hl : Lib.deBruijn64tab.length = 64 := by decide
  simp [tab64, List.getD, hl, hi]
theorem bits_TrailingZeros64.calls (a r : Int) (w : World) (hG : Glob w) (h : bits_TrailingZeros64.f a = some r) :
    Calls Tryd.prog 66 #[.int .u64 a] w fun e w' => e = .returned (.int .i64 r) ∧ Below w.heap.size w w' := by
  unfold bits_TrailingZeros64.f at h
  split at h
  · rename_i hc
    obtain ⟨h1, h2⟩ := hc
    obtain rfl := Option.some.inj h
    obtain ⟨x, rfl⟩ := Int.eq_ofNat_of_zero_le h1
    simp only [Int.toNat_natCast]
    by_cases hx0 : x = 0
    · subst hx0
      refine (tz_zero w).mono ?_
      rintro e w' ⟨rfl, rfl⟩
      exact ⟨by simp [Lib.ctz], Below.refl _ _⟩
    · obtain ⟨hlow, hk⟩ := Lib.lowest_bit 64 x hx0 (by omega)
      obtain ⟨hi, htab⟩ := Lib.deBruijn64_at _ hk
      have hcell := tab64_cell hG _ hi
      rw [htab] at hcell
      refine (tz_core x _ _ w (by simp; omega) (tz64_key x _ (by omega) hx0 hlow) hi hk hcell).mono ?_
      rintro e w' ⟨rfl, rfl⟩
      exact ⟨rfl, Below.refl _ _⟩
  · cases h

def bits_Len64.f (a : Int) : Option Int := if u64ok a then some (Lib.bitLen a.toNat : Int) else none
theorem bits_Len64.same (a r : Int) (w : World) (h : bits_Len64.f a = some r) :
    Calls Tryd.prog 80 #[.int .u64 a] w fun e w' => e = .returned (.int .i64 r) ∧ w = w' := by
  unfold bits_Len64.f at h
  split at h
  · rename_i hc
    obtain ⟨h1, h2⟩ := hc
    obtain rfl := Option.some.inj h
    refine (Tryd.bits_Len64 a w h1 (by omega)).mono ?_
    rintro e w' ⟨rfl, rfl⟩
    exact ⟨rfl, rfl⟩
  · cases h
theorem bits_Len64.calls (a r : Int) (w : World) (h : bits_Len64.f a = some r) :
    Calls Tryd.prog 80 #[.int .u64 a] w fun e w' => e = .returned (.int .i64 r) ∧ Drawn0 w w' := by
  refine (bits_Len64.same a r w h).mono ?_
  rintro e w' ⟨rfl, rfl⟩
  exact ⟨rfl, Drawn0.refl _⟩

def bits_Mul64.f (a b : Int) : Option (Int × Int) := if u64ok a ∧ u64ok b then some (a * b / 18446744073709551616, a * b % 18446744073709551616) else none
theorem bits_Mul64.same (a b r1 r2 : Int) (w : World) (h : bits_Mul64.f a b = some (r1, r2)) :
    Calls Tryd.prog 65 #[.int .u64 a, .int .u64 b] w fun e w' => e = .returned (.tuple #[.int .u64 r1, .int .u64 r2]) ∧ w = w' := by
  unfold bits_Mul64.f at h
  split at h
  · rename_i hc
    obtain ⟨⟨h1, h2⟩, h3, h4⟩ := hc
    simp only [Option.some.injEq, Prod.mk.injEq] at h
    obtain ⟨rfl, rfl⟩ := h
    obtain ⟨x, rfl⟩ := Int.eq_ofNat_of_zero_le h1
    obtain ⟨y, rfl⟩ := Int.eq_ofNat_of_zero_le h3
    refine (Tryd.bits_Mul64 x y (by omega) (by omega) w).mono ?_
    rintro e w' ⟨rfl, rfl⟩
    exact ⟨by rfl, rfl⟩
  · cases h
theorem bits_Mul64.calls (a b r1 r2 : Int) (w : World) (h : bits_Mul64.f a b = some (r1, r2)) :
    Calls Tryd.prog 65 #[.int .u64 a, .int .u64 b] w fun e w' => e = .returned (.tuple #[.int .u64 r1, .int .u64 r2]) ∧ Drawn0 w w' := by
  refine (bits_Mul64.same a b r1 r2 w h).mono ?_
  rintro e w' ⟨rfl, rfl⟩
  exact ⟨rfl, Drawn0.refl _⟩

def strconv_FormatInt.f (a b : Int) : Option ByteArray := if b = 10 ∧ -9223372036854775808 ≤ a ∧ a ≤ 9223372036854775807 then some ⟨(Lib.itoa a).toArray⟩ else none
theorem strconv_FormatInt.calls (a b : Int) (r : ByteArray) (w : World) (hG : Glob w) (h : strconv_FormatInt.f a b = some r) :
    Calls Tryd.prog 43 #[.int .i64 a, .int .i64 b] w fun e w' => e = .returned (.string r) ∧ Below w.heap.size w w' := by
  unfold strconv_FormatInt.f at h
  split at h
  · rename_i hc
    obtain ⟨rfl, h1, h2⟩ := hc
    obtain rfl := Option.some.inj h
    refine (Tryd.strconv_FormatInt_10 a h1 h2 w hG.2).mono ?_
    rintro e w' ⟨rfl, k, os, rfl⟩
    refine ⟨rfl, ⟨rfl, rfl, rfl, ?_, ?_⟩⟩
    · show w.heap.size ≤ (w.heap ++ os).size
      rw [Array.size_append]; omega
    · intro j hj
      show (w.heap ++ os)[j]? = w.heap[j]?
      rw [Array.getElem?_append, if_pos hj]
  · cases h
end Go.Proofs.YtglcjhjmncolpaaDoor.Q
