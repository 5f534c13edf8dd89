/- The tied card of RatioOrder: for all fractions a and b, of any numbers of 64 bits, the law's call returns true, and leaves all else as it was; the three tables that it reads hold what the program's text lays. -/
import Derived.Test.YtglcjhjmncolpaaDoorRows
import Derived.Test.YtglcjhjmncolpaaDoorCards
import Derived.Test.YtglcjhjmncolpaaDoorTie
import Derived.Test.YtglcjhjmncolpaaDoorPureRatioOrder
import Derived.WalkKit
import Derived.ProofKit
import Derived.OpenShut
import Derived.ShutString
import Derived.ChangeOld
import Derived.Below
import Derived.SizedLaws
import Derived.LaidMore
import Derived.SevenTiedAt
import Derived.Lib.SmallJoins
namespace Go.Proofs.YtglcjhjmncolpaaDoor.ratioOrder
open Go.ChangeShapes Go.WideShapes Go.ChangeAt Go.RowKit
open Go.ChangeMaps (open_string shut_string)
open Go.Joins (open_agg2 shut_agg2)
theorem own : ownKnob Tryd.prog.godebug = none := by kernel_rfl
def laids : List (String × DataW Unit) := [("math/bits.deBruijn32tab", Rows.laid_math_bits_deBruijn32tab), ("math/bits.deBruijn64tab", Rows.laid_math_bits_deBruijn64tab), ("internal/strconv.uint64pow10", Rows.laid_internal_strconv_uint64pow10)]
theorem door_met (os : Os) (args : Array Value) : laidMetH Tryd.prog laids ((World.doorLaid Tryd.prog 400 os).forCall (fun _ _ => 0) ⟨#[], args, []⟩).memory :=
  laidMetH_of_parts3 (fuel := 8) (laidMet_of_run' 8 (by kernel_rfl) (by kernel_rfl)) (by kernel_rfl) (by kernel_rfl)
theorem glob_of_laid {W : World} (h : laidMetH Tryd.prog laids W) : Q.Glob W := by
  rw [MakeChecks.laidMetH_plain _ _ _ (by kernel_rfl)] at h
  obtain ⟨ps, ⟨g0, t0, cs0, f0, p0, q0, hg0, ht0, hv0, hd0, ⟨g1, t1, cs1, f1, p1, q1, hg1, ht1, hv1, hd1, ⟨g2, t2, cs2, f2, p2, q2, hg2, ht2, hv2, hd2, _, _⟩, _⟩, _⟩, _, _⟩ := h
  have G1 : Tryd.prog.globalNamed "math/bits.deBruijn64tab" = some 0 := by kernel_rfl
  have G2 : Tryd.prog.globalNamed "internal/strconv.uint64pow10" = some 1 := by kernel_rfl
  have T1 : (Tryd.prog.globals[0]?).map (·.type) = some 102 := by kernel_rfl
  have T2 : (Tryd.prog.globals[1]?).map (·.type) = some 105 := by kernel_rfl
  obtain rfl := Option.some.inj (G1.symm.trans hg1)
  obtain rfl := Option.some.inj (G2.symm.trans hg2)
  obtain rfl := Option.some.inj (T1.symm.trans ht1)
  obtain rfl := Option.some.inj (T2.symm.trans ht2)
  have c1 := Lib.cells_of_tab (zs := Q.tab64) Tryd.underlying102 Tryd.underlying5 (by kernel_rfl) (by kernel_rfl) (show DataW.trod _ Tryd.prog W 0 _ _ f1 102 cs1.toList = some (Lib.tabData .u8 Q.tab64, p1) from hd1)
  have c2 := Lib.cells_of_tab (zs := Lib.pow10Tab) Tryd.underlying105 Tryd.underlying45 (by kernel_rfl) (by kernel_rfl) (show DataW.trod _ Tryd.prog W 0 _ _ f2 105 cs2.toList = some (Lib.tabData .u64 Lib.pow10Tab, p2) from hd2)
  refine ⟨?_, ?_⟩
  · unfold Lib.TabIs
    rw [hv1, ← c1]
  · unfold Lib.TabIs
    rw [hv2, ← c2]
set_option maxRecDepth 100000 in
theorem lifted (os : Os) (started : os.Started) (H : Type) (enc : TypeId × Value → H) :
    ReturnsInHanded {} Tryd.checked os 4 .any (fun w args => (Rows.ratioOrderSpec.pre enc Tryd.prog Tryd.f4 [] false w args ∧ laidMetH Tryd.prog laids w) ∧ sizedMet enc Tryd.prog Tryd.f4 (OpenSpec.ofChange Rows.ratioOrderSpec) false w args)
      (Rows.ratioOrderSpec.post enc Tryd.prog Tryd.f4 false true false false) := by
  refine returnsInHanded_of_change_and (C := Tryd.checked) (X := fun w _ => laidMetH Tryd.prog laids w) (fun _ _ _ hh h => h.of_heap hh) own started (by kernel_rfl) Tryd.func4
    (ChangeSpec.witness_shaped (enc := enc) (C := Tryd.checked) (os := os) (X := fun w _ => laidMetH Tryd.prog laids w) false (World.doorLaid Tryd.prog 400 os) #[.agg #[.int .i64 0, .int .i64 0], .agg #[.int .i64 0, .int .i64 0]] 8 rfl (World.shaped_of_RefB (by kernel_rfl) (by kernel_rfl)) (by kernel_rfl) (by kernel_rfl) (by kernel_rfl) (door_met os _)) ?_
  intro W base args ds gs before hval0 hW hcnd hsz0 hL _
  have hval : ∀ (j : Nat) t v, Tryd.f4.params[j]? = some t → args[j]? = some v → Value.okWide Tryd.prog W .any base t v := hval0
  have hW' := hW
  obtain ⟨p, q, hA0, hV, rfl, hfz, hnd⟩ := hW
  have hA : DataW.TrodAll enc Tryd.prog W 0 (fun _ => true) true Tryd.f4.params.toList args.toList ds p := hA0
  rw [Tryd.params4] at hA hval
  obtain ⟨v0, vs0, d0, ds0, p0, q0, hargs, rfl, rfl, h0, r0⟩ := trodAll_cons hA
  obtain ⟨v1, vs1, d1, ds1, p1, q1, rfl, rfl, rfl, h1, r1⟩ := trodAll_cons r0
  obtain ⟨rfl, rfl, rfl⟩ := trodAll_nil r1
  obtain rfl : args = #[v0, v1] := by cases args; simp_all
  obtain ⟨rfl, rfl⟩ := trodVars_none hV
  obtain ⟨c0, c1, y0, y1, m0, rfl, rfl, rfl, hy0, hy1⟩ := open_agg2 Tryd.underlying24 (by kernel_rfl) (by kernel_rfl) (hval 0 24 v0 rfl rfl) h0
  obtain ⟨c2, c3, y2, y3, m1, rfl, rfl, rfl, hy2, hy3⟩ := open_agg2 Tryd.underlying24 (by kernel_rfl) (by kernel_rfl) (hval 1 24 v1 rfl rfl) h1
  obtain ⟨a0, e0, rfl, w0⟩ := DataW.trod_int Tryd.underlying2 hy0
  obtain ⟨a1, e1, rfl, w1⟩ := DataW.trod_int Tryd.underlying2 hy1
  obtain ⟨b0, e2, rfl, x0⟩ := DataW.trod_int Tryd.underlying2 hy2
  obtain ⟨b1, e3, rfl, x1⟩ := DataW.trod_int Tryd.underlying2 hy3
  simp at e0 e1 e2 e3
  subst e0 e1 e2 e3
  have hG := glob_of_laid hL
  clear hA0 hval0 hsz0 hL
  simp only [List.append_nil] at hW'
  have reads : ∀ (W' : World) (sp : Nat → Bool) (a b : Int), (Lit.int .i64 a).wf = true → (Lit.int .i64 b).wf = true → DataW.Trod enc Tryd.prog W' 0 sp true 24 (.agg #[.int .i64 a, .int .i64 b]) (.agg [.lit (.int .i64 a), .lit (.int .i64 b)]) [] := fun W' sp a b wa wb =>
    shut_agg2 (y0 := (.lit (.int .i64 a), [])) (y1 := (.lit (.int .i64 b), [])) Tryd.underlying24 (by kernel_rfl) (by kernel_rfl) ⟨1, by simp [DataW.trod, Tryd.underlying2, wa]⟩ ⟨1, by simp [DataW.trod, Tryd.underlying2, wb]⟩
  obtain ⟨k, hk⟩ := Q.RatioOrder (Q.i64_of_wf w0) (Q.i64_of_wf w1) (Q.i64_of_wf x0) (Q.i64_of_wf x1)
  refine (Q.pochoirlaw03_RatioOrder.calls k a0 a1 b0 b1 true W hG hk).mono fun e W' ⟨he, bel⟩ => ?_
  subst he
  exact ⟨_, rfl, _, _, _, [], _, [], hW', trodAll_mk1 (shut_bool Tryd.underlying4 _), (trodAll_cons_mk (reads _ _ _ _ w0 w1) (trodAll_cons_mk (reads _ _ _ _ x0 x1) trodAll_mk0)), rfl, bel.frame _, fun h => by cases h⟩
theorem over : Rows.ratioOrderRow.holds Tryd.pinned (OpenSpec.ofChange Rows.ratioOrderSpec) :=
  OpenClaim.holds_of_wide 4 Tryd.f4 rfl rfl rfl rfl rfl rfl rfl ⟨rfl, rfl, rfl, rfl, rfl⟩ rfl rfl rfl rfl rfl (by kernel_rfl) Tryd.func4 (by kernel_rfl)
    (of_decide_eq_true (by kernel_rfl)) (by unfold Func.isWrapper; first | (rw [if_pos (by decide +kernel)]; kernel_rfl) | (rw [if_neg (by decide +kernel)]; exact ⟨rfl, rfl⟩))
    (fun os started H enc _ => lifted os started H enc)
theorem card : Rows.RatioOrderCardSaid :=
  Claim7.holds_tied_plain_at .later [] [.data, .data, .data] true (true, "d947eede01930fd1dd2d2c8dce3e776fe80fc0644b7dc41905d1d494215f26ef") false
    over (fun _ h => by cases h) (by kernel_rfl) (fun _ h => by cases h) ratioOrder_row_tie rfl ⟨rfl, rfl⟩ (by kernel_rfl) rfl
    (fun f fn hf hfn => by
      obtain rfl : f = 4 := Option.some.inj ((show Tryd.prog.funcNamed "pochoir/pochoirlaw03.RatioOrder" = some 4 by kernel_rfl).symm.trans hf) |>.symm
      obtain rfl : fn = Tryd.f4 := (Option.some.inj (Tryd.func4.symm.trans hfn)).symm
      exact ⟨by kernel_rfl, fun j t ht => by
        rw [Tryd.params4] at ht
        have hm : t ∈ [24, 24] := by simpa using Array.mem_of_getElem? ht
        have hall : ([24, 24].all fun u => !Tryd.prog.wantsStandIn u) = true := by kernel_rfl
        exact (show Tryd.prog.wantsStandIn t = false by simpa using List.all_eq_true.1 hall t hm)⟩)
    (by kernel_rfl)
end Go.Proofs.YtglcjhjmncolpaaDoor.ratioOrder
namespace Go.Proofs.YtglcjhjmncolpaaDoor
/-- The card, under a short name. -/
theorem ratioOrder_card : Rows.RatioOrderCardSaid := ratioOrder.card
#print axioms ratioOrder_card
end Go.Proofs.YtglcjhjmncolpaaDoor
