-- Written for this claim by a program of the session (wip/print2). Not trusted: Lean checks it.
import Derived.Test.YtglcjhjmncolpaaDoorQx0
import Derived.Test.YtglcjhjmncolpaaDoorQx2
import Derived.Test.YtglcjhjmncolpaaDoorQx5
import Derived.Test.YtglcjhjmncolpaaDoorQx7
namespace Go.Proofs.YtglcjhjmncolpaaDoor.Q
open Go.RowKit Go.Proofs.YtglcjhjmncolpaaDoorW.PrintWords Go.Proofs.YtglcjhjmncolpaaDoorW.PrintLast Go.Proofs.YtglcjhjmncolpaaDoorW.PrintMore
attribute [local go_sem] max2_int min2_int max_two min_two max_three min_three max_four min_four   -- for this text's walks alone
set_option linter.unusedVariables false
set_option linter.unusedSimpArgs false

attribute [local go_sem high] eqA47
/-! ### ratio_lowest: function 26 -/
def ratio_lowest.j0 : Nat → Int → Bool → Int → Int → Option (Int × Int × Int)
 | 0, _, _, _, _ => none
 | k + 1, x9, x10, x195000, x195001 => (ratio_fits.f k false x195000 x195001).bind fun bt199 => (if x10 = true then (if bt199.2 = true then (some (x9, bt199.1, 0)) else (some (0, 0, 2))) else (some (0, 0, 2)))
def ratio_lowest.f (k : Nat) (a0_0 : Bool) (a0_1 : Int) (a0_2 : Int) (a1_0 : Bool) (a1_1 : Int) (a1_2 : Int) : Option (Int × Int × Int) := (ratio_common.f k a0_1 a0_2 a1_1 a1_2).bind fun bt186 => ((ratio_part.f k a0_1 a0_2 bt186.1 bt186.2).bind fun bt189 => ((ratio_part.f k a1_1 a1_2 bt186.1 bt186.2).bind fun bt191 => (if (a0_0 != a1_0) = true then ((ratio_fits.f k (!(bt189.1 == 0) || (!(bt189.2 == 0))) bt189.1 bt189.2).bind fun bt195 => (ratio_lowest.j0 k bt195.1 bt195.2 bt191.1 bt191.2)) else ((ratio_fits.f k false bt189.1 bt189.2).bind fun bt197 => (ratio_lowest.j0 k bt197.1 bt197.2 bt191.1 bt191.2)))))
theorem ratio_lowest.mono_l : ∀ k, (∀ y0 y1 y2 y3, LeO (ratio_lowest.j0 k y0 y1 y2 y3) (ratio_lowest.j0 (k + 1) y0 y1 y2 y3))
 | 0 => fun _ _ _ _ r h => by simp [ratio_lowest.j0] at h
 | k + 1 => by
  have ih0 := ratio_lowest.mono_l k
  ·intro y0 y1 y2 y3
   unfold ratio_lowest.j0
   repeat' first
   | (with_reducible exact ih0 _ _ _ _)
   | (with_reducible exact ratio_common.mono _ _ _ _ _)
   | (with_reducible exact ratio_fits.mono _ _ _ _)
   | (with_reducible exact ratio_part.mono _ _ _ _ _)
   | (with_reducible exact LeO.refl _)
   | (with_reducible exact LeO.none _)
   | (with_reducible refine LeO.ite ?_ ?_)
   | (with_reducible refine LeO.bind ?_ (fun _ => ?_))
   | exact ih0 _ _ _ _
   | exact ratio_common.mono _ _ _ _ _
   | exact ratio_fits.mono _ _ _ _
   | exact ratio_part.mono _ _ _ _ _
   | exact LeO.none _
   | refine LeO.ite ?_ ?_
   | refine LeO.bind ?_ (fun _ => ?_)
theorem ratio_lowest.mono : ∀ a0 a1 a2 a3 a4 a5 k, LeO (ratio_lowest.f k a0 a1 a2 a3 a4 a5) (ratio_lowest.f (k + 1) a0 a1 a2 a3 a4 a5) := by
 intro a0 a1 a2 a3 a4 a5 k
 have ih0 := ratio_lowest.mono_l k
 unfold ratio_lowest.f
 repeat' first
   | (with_reducible exact ih0 _ _ _ _)
   | (with_reducible exact ratio_common.mono _ _ _ _ _)
   | (with_reducible exact ratio_fits.mono _ _ _ _)
   | (with_reducible exact ratio_part.mono _ _ _ _ _)
   | (with_reducible exact LeO.refl _)
   | (with_reducible exact LeO.none _)
   | (with_reducible refine LeO.ite ?_ ?_)
   | (with_reducible refine LeO.bind ?_ (fun _ => ?_))
   | exact ih0 _ _ _ _
   | exact ratio_common.mono _ _ _ _ _
   | exact ratio_fits.mono _ _ _ _
   | exact ratio_part.mono _ _ _ _ _
   | exact LeO.none _
   | refine LeO.ite ?_ ?_
   | refine LeO.bind ?_ (fun _ => ?_)
def ratio_lowest.T2 : Bool × List (List Nat × List Nat) := (true, [([], []), ([0], [0]), ([], []), ([1, 2], [1, 2]), ([], []), ([4], [4]), ([], []), ([5, 6, 3], [5, 6]), ([], []), ([], []), ([8, 3, 7, 0, 1, 2, 3, 8, 9], [3, 8]), ([9, 7, 10, 0, 1, 2, 3, 4, 5, 6, 7, 8, 9, 10], [7, 9])])
def ratio_lowest.B2 : List Nat := [0, 1, 0, 7, 0, 16, 0, 127, 0, 0, 1023, 2047]
theorem ratio_lowest.tab2 : rtab .any (opsOf Tryd.f26 2) = ratio_lowest.T2 := by kernel_rfl
theorem ratio_lowest.bits2 : waitsOk ratio_lowest.T2.2 ratio_lowest.B2 = true := by kernel_rfl
def ratio_lowest.T3 : Bool × List (List Nat × List Nat) := (true, [([], []), ([0], [0]), ([], []), ([2], [2]), ([1, 3], [1, 3]), ([4], [4]), ([5], [5]), ([5], [5]), ([6, 7, 5], [5, 6, 7]), ([5, 8], [5, 8]), ([], []), ([9, 10, 5], [9, 10]), ([11], [11]), ([12], [12]), ([12], [12]), ([13, 11, 0, 1, 2, 3, 4, 5, 6, 7, 8, 9, 10, 11, 12, 13], [13]), ([14, 15, 0, 1, 2, 3, 4, 5, 6, 7, 8, 9, 10, 11, 12, 13, 14, 15], [14])])
def ratio_lowest.B3 : List Nat := [0, 1, 0, 4, 15, 31, 63, 63, 255, 511, 0, 2047, 4095, 8191, 8191, 16383, 65535]
theorem ratio_lowest.tab3 : rtab .any (opsOf Tryd.f26 3) = ratio_lowest.T3 := by kernel_rfl
theorem ratio_lowest.bits3 : waitsOk ratio_lowest.T3.2 ratio_lowest.B3 = true := by kernel_rfl
set_option maxHeartbeats 8000000 in
set_option maxRecDepth 100000 in
theorem ratio_lowest.calls (k : Nat) (a0_0 : Bool) (a0_1 : Int) (a0_2 : Int) (a1_0 : Bool) (a1_1 : Int) (a1_2 : Int) (r1 : Int) (r2 : Int) (r3 : Int) (w : World) (hG : Glob w) (h : ratio_lowest.f k a0_0 a0_1 a0_2 a1_0 a1_1 a1_2 = some (r1, r2, r3)) :
  Calls Tryd.prog 26 #[.agg #[.bool a0_0, .int .u64 a0_1, .int .u64 a0_2], .agg #[.bool a1_0, .int .u64 a1_1, .int .u64 a1_2]] w fun e w' => e = .returned (.tuple #[.agg #[.int .i64 r1, .int .i64 r2], .int .i64 r3]) ∧ Below w.heap.size w w' := by
 have hu49 := Tryd.underlying49
 have hu24 := Tryd.underlying24
 have hu47 := Tryd.underlying47
 have HB := Aside0.mk (Below.refl w.heap.size w)
 have H : ((ratio_common.f k a0_1 a0_2 a1_1 a1_2).bind fun bt186 => ((ratio_part.f k a0_1 a0_2 bt186.1 bt186.2).bind fun bt189 => ((ratio_part.f k a1_1 a1_2 bt186.1 bt186.2).bind fun bt191 => (if (a0_0 != a1_0) = true then ((ratio_fits.f k (!(bt189.1 == 0) || (!(bt189.2 == 0))) bt189.1 bt189.2).bind fun bt195 => (ratio_lowest.j0 k bt195.1 bt195.2 bt191.1 bt191.2)) else ((ratio_fits.f k false bt189.1 bt189.2).bind fun bt197 => (ratio_lowest.j0 k bt197.1 bt197.2 bt191.1 bt191.2)))))) = some (r1, r2, r3) := h
 clear h
 replace H := Option.bind_eq_some_iff.mp H
 obtain ⟨⟨t186, t187⟩, A30, H⟩ := H
 replace H : ((ratio_part.f k a0_1 a0_2 t186 t187).bind fun bt189 => ((ratio_part.f k a1_1 a1_2 t186 t187).bind fun bt191 => (if (a0_0 != a1_0) = true then ((ratio_fits.f k (!(bt189.1 == 0) || (!(bt189.2 == 0))) bt189.1 bt189.2).bind fun bt195 => (ratio_lowest.j0 k bt195.1 bt195.2 bt191.1 bt191.2)) else ((ratio_fits.f k false bt189.1 bt189.2).bind fun bt197 => (ratio_lowest.j0 k bt197.1 bt197.2 bt191.1 bt191.2))))) = some (r1, r2, r3) := H
 have A3 := Aside0.mk A30
 clear A30
 replace H := Option.bind_eq_some_iff.mp H
 obtain ⟨⟨t189, t190⟩, A40, H⟩ := H
 replace H : ((ratio_part.f k a1_1 a1_2 t186 t187).bind fun bt191 => (if (a0_0 != a1_0) = true then ((ratio_fits.f k (!(t189 == 0) || (!(t190 == 0))) t189 t190).bind fun bt195 => (ratio_lowest.j0 k bt195.1 bt195.2 bt191.1 bt191.2)) else ((ratio_fits.f k false t189 t190).bind fun bt197 => (ratio_lowest.j0 k bt197.1 bt197.2 bt191.1 bt191.2)))) = some (r1, r2, r3) := H
 have A4 := Aside0.mk A40
 clear A40
 replace H := Option.bind_eq_some_iff.mp H
 obtain ⟨⟨t191, t192⟩, A50, H⟩ := H
 replace H : (if (a0_0 != a1_0) = true then ((ratio_fits.f k (!(t189 == 0) || (!(t190 == 0))) t189 t190).bind fun bt195 => (ratio_lowest.j0 k bt195.1 bt195.2 t191 t192)) else ((ratio_fits.f k false t189 t190).bind fun bt197 => (ratio_lowest.j0 k bt197.1 bt197.2 t191 t192))) = some (r1, r2, r3) := H
 have A5 := Aside0.mk A50
 clear A50
 have HC6 := Aside0.mk H
 clear H
 go_enter Tryd.func26, Tryd.ntmps26
 try go_wp2_with (first | ((with_reducible refine gate_dst (N := 2) rfl ?_); refine box_event ?hg (N := 2) ?hd (cs := #[.bool a0_0, .int .u64 a0_1, .int .u64 a0_2]) (t := 49) ?hr ?_; (case hd => rfl); (case hg => rfl); (case hr => exact gs_); intro gb183 hg w7 hbox hb; have BK183 := Aside0.mk (hbox); have GW183 := Aside0.mk ((by rw [hg]; exact (below_size (bl HB)) : w.heap.size ≤ gb183)); have GE183 := Aside0.mk ((by rw [hg]; exact (below_size (bl HB)) : w.heap.size ≤ gb183)); replace HB := Aside0.mk (below_step (bl HB) hb); clear hb hbox hg) | ((with_reducible refine gate_dst (N := 3) rfl ?_); refine box_event ?hg (N := 3) ?hd (cs := #[.bool a1_0, .int .u64 a1_1, .int .u64 a1_2]) (t := 49) ?hr ?_; (case hd => rfl); (case hg => rfl); (case hr => exact gs_); intro gb184 hg w8 hbox hb; have BK184 := Aside0.mk (hbox); have GW184 := Aside0.mk ((by rw [hg]; exact (below_size (bl HB)) : w.heap.size ≤ gb184)); have GE184 := Aside0.mk ((by rw [hg]; exact (below_size (bl HB)) : w.heap.size ≤ gb184)); replace HB := Aside0.mk (below_step (bl HB) hb); have NB183_184 := Aside0.mk ((by rw [hg]; exact Nat.ne_of_lt (blk_lt (kb BK183)) : gb183 ≠ gb184)); have NB184_183 := Aside0.mk ((by rw [hg]; exact Nat.ne_of_gt (blk_lt (kb BK183)) : gb184 ≠ gb183)); replace BK183 := Aside0.mk (blk_below (kb BK183) hb); clear hb hbox hg) | ((with_reducible refine gate_dst (N := 4) rfl ?_); refine box_event ?hg (N := 4) ?hd (cs := #[.int .i64 0, .int .i64 0]) (t := 24) ?hr ?_; (case hd => rfl); (case hg => rfl); (case hr => exact gs_); intro gb185 hg w9 hbox hb; have BK185 := Aside0.mk (hbox); have GW185 := Aside0.mk ((by rw [hg]; exact (below_size (bl HB)) : w.heap.size ≤ gb185)); have GE185 := Aside0.mk ((by rw [hg]; exact (below_size (bl HB)) : w.heap.size ≤ gb185)); replace HB := Aside0.mk (below_step (bl HB) hb); have NB183_185 := Aside0.mk ((by rw [hg]; exact Nat.ne_of_lt (blk_lt (kb BK183)) : gb183 ≠ gb185)); have NB185_183 := Aside0.mk ((by rw [hg]; exact Nat.ne_of_gt (blk_lt (kb BK183)) : gb185 ≠ gb183)); replace BK183 := Aside0.mk (blk_below (kb BK183) hb); have NB184_185 := Aside0.mk ((by rw [hg]; exact Nat.ne_of_lt (blk_lt (kb BK184)) : gb184 ≠ gb185)); have NB185_184 := Aside0.mk ((by rw [hg]; exact Nat.ne_of_gt (blk_lt (kb BK184)) : gb185 ≠ gb184)); replace BK184 := Aside0.mk (blk_below (kb BK184) hb); clear hb hbox hg; have hnb10 := NB183_184.out; have hnc10 := NB184_183.out; have hnb11 := NB183_185.out; have hnc11 := NB185_183.out; have hcz12_0 := ck BK183 0; have hcz12_1 := ck BK183 1; have hcz12_2 := ck BK183 2; have hfz12_0 := blk_frozen BK183.out 0; have hfz12_1 := blk_frozen BK183.out 1; have hfz12_2 := blk_frozen BK183.out 2; have hnb13 := NB184_185.out; have hnc13 := NB185_184.out; have hcz14_0 := ck BK184 0; have hcz14_1 := ck BK184 1; have hcz14_2 := ck BK184 2; have hfz14_0 := blk_frozen BK184.out 0; have hfz14_1 := blk_frozen BK184.out 1; have hfz14_2 := blk_frozen BK184.out 2) | ((with_reducible refine gate_callee (f := 31) rfl ?_); refine goesL_ (some 17) rfl rfl Tryd.func31 (by kernel_rfl) rfl #[.agg #[.int .u64 a0_1, .int .u64 a0_2], .agg #[.int .u64 a1_1, .int .u64 a1_2]] rfl gm_ ?_; (with_reducible refine (ratio_common.calls k a0_1 a0_2 a1_1 a1_2 t186 t187 _ ?side1 A3.out).mono ?_); (case side1 => exact Glob.step hG (bl HB)); rintro e w15 ⟨rfl, hb⟩; refine ⟨_, rfl, ?_⟩; replace BK183 := Aside0.mk (blk_below (kb BK183) hb); replace BK184 := Aside0.mk (blk_below (kb BK184) hb); replace BK185 := Aside0.mk (blk_below (kb BK185) hb); replace HB := Aside0.mk (below_step (bl HB) hb); (try clear hb); (try clear hb2); (try clear hk); (try clear hi)) | ((with_reducible refine gate_dst (N := 6) rfl ?_); refine box_event ?hg (N := 6) ?hd (cs := #[.int .u64 0, .int .u64 0]) (t := 47) ?hr ?_; (case hd => rfl); (case hg => rfl); (case hr => exact gs_); intro gb188 hg w16 hbox hb; have BK188 := Aside0.mk (hbox); have GW188 := Aside0.mk ((by rw [hg]; exact (below_size (bl HB)) : w.heap.size ≤ gb188)); have GE188 := Aside0.mk ((by rw [hg]; exact (below_size (bl HB)) : w.heap.size ≤ gb188)); replace HB := Aside0.mk (below_step (bl HB) hb); have NB183_188 := Aside0.mk ((by rw [hg]; exact Nat.ne_of_lt (blk_lt (kb BK183)) : gb183 ≠ gb188)); have NB188_183 := Aside0.mk ((by rw [hg]; exact Nat.ne_of_gt (blk_lt (kb BK183)) : gb188 ≠ gb183)); replace BK183 := Aside0.mk (blk_below (kb BK183) hb); have NB184_188 := Aside0.mk ((by rw [hg]; exact Nat.ne_of_lt (blk_lt (kb BK184)) : gb184 ≠ gb188)); have NB188_184 := Aside0.mk ((by rw [hg]; exact Nat.ne_of_gt (blk_lt (kb BK184)) : gb188 ≠ gb184)); replace BK184 := Aside0.mk (blk_below (kb BK184) hb); have NB185_188 := Aside0.mk ((by rw [hg]; exact Nat.ne_of_lt (blk_lt (kb BK185)) : gb185 ≠ gb188)); have NB188_185 := Aside0.mk ((by rw [hg]; exact Nat.ne_of_gt (blk_lt (kb BK185)) : gb188 ≠ gb185)); replace BK185 := Aside0.mk (blk_below (kb BK185) hb); clear hb hbox hg; have hnb17 := NB188_183.out; have hnc17 := NB183_188.out; have hnb18 := NB188_184.out; have hnc18 := NB184_188.out; have hnb19 := NB188_185.out; have hnc19 := NB185_188.out; have hcz20_0 := ck BK188 0; have hcz20_1 := ck BK188 1; have hfz20_0 := blk_frozen BK188.out 0; have hfz20_1 := blk_frozen BK188.out 1))
 have n0_ : Aside0 (((w16.setCell ⟨gb188, 0, none⟩ (.int .u64 t186)).setCell ⟨gb188, 1, none⟩ (.int .u64 t187)).heap[gb183]? = some (.cells #[.bool a0_0, .int .u64 a0_1, .int .u64 a0_2] 49 (0, 0))) := ⟨by (with_reducible repeat (first | refine blk_drewN ?_ _ | refine blk_drew ?_ | refine blk_alloc ?_ _)); refine blk_far ?_ NB183_188.out _; (with_reducible repeat (first | refine blk_drewN ?_ _ | refine blk_drew ?_ | refine blk_alloc ?_ _)); refine blk_far ?_ NB183_188.out _; (with_reducible repeat (first | refine blk_drewN ?_ _ | refine blk_drew ?_ | refine blk_alloc ?_ _)); exact BK183.out⟩
 have n1_ : Aside0 (((w16.setCell ⟨gb188, 0, none⟩ (.int .u64 t186)).setCell ⟨gb188, 1, none⟩ (.int .u64 t187)).heap[gb184]? = some (.cells #[.bool a1_0, .int .u64 a1_1, .int .u64 a1_2] 49 (0, 0))) := ⟨by (with_reducible repeat (first | refine blk_drewN ?_ _ | refine blk_drew ?_ | refine blk_alloc ?_ _)); refine blk_far ?_ NB184_188.out _; (with_reducible repeat (first | refine blk_drewN ?_ _ | refine blk_drew ?_ | refine blk_alloc ?_ _)); refine blk_far ?_ NB184_188.out _; (with_reducible repeat (first | refine blk_drewN ?_ _ | refine blk_drew ?_ | refine blk_alloc ?_ _)); exact BK184.out⟩
 have n2_ : Aside0 (((w16.setCell ⟨gb188, 0, none⟩ (.int .u64 t186)).setCell ⟨gb188, 1, none⟩ (.int .u64 t187)).heap[gb185]? = some (.cells #[.int .i64 0, .int .i64 0] 24 (0, 0))) := ⟨by (with_reducible repeat (first | refine blk_drewN ?_ _ | refine blk_drew ?_ | refine blk_alloc ?_ _)); refine blk_far ?_ NB185_188.out _; (with_reducible repeat (first | refine blk_drewN ?_ _ | refine blk_drew ?_ | refine blk_alloc ?_ _)); refine blk_far ?_ NB185_188.out _; (with_reducible repeat (first | refine blk_drewN ?_ _ | refine blk_drew ?_ | refine blk_alloc ?_ _)); exact BK185.out⟩
 have n3_ : Aside0 (((w16.setCell ⟨gb188, 0, none⟩ (.int .u64 t186)).setCell ⟨gb188, 1, none⟩ (.int .u64 t187)).heap[gb188]? = some (.cells #[.int .u64 t186, .int .u64 t187] 47 (0, 0))) := ⟨by (with_reducible repeat (first | refine blk_drewN ?_ _ | refine blk_drew ?_ | refine blk_alloc ?_ _)); refine blk_put (cs := #[.int .u64 t186, .int .u64 0]) ?_ 1 _ rfl; (with_reducible repeat (first | refine blk_drewN ?_ _ | refine blk_drew ?_ | refine blk_alloc ?_ _)); refine blk_put (cs := #[.int .u64 0, .int .u64 0]) ?_ 0 _ rfl; (with_reducible repeat (first | refine blk_drewN ?_ _ | refine blk_drew ?_ | refine blk_alloc ?_ _)); exact BK188.out⟩
 have n4_ : Aside0 (Below w.heap.size w ((w16.setCell ⟨gb188, 0, none⟩ (.int .u64 t186)).setCell ⟨gb188, 1, none⟩ (.int .u64 t187))) := ⟨bl HB⟩
 (try clear BK183)
 (try clear BK184)
 (try clear BK185)
 (try clear BK188)
 (try clear HB)
 generalize ((w16.setCell ⟨gb188, 0, none⟩ (.int .u64 t186)).setCell ⟨gb188, 1, none⟩ (.int .u64 t187)) = w21 at n0_ n1_ n2_ n3_ n4_ ⊢
 have BK183 := n0_
 have BK184 := n1_
 have BK185 := n2_
 have BK188 := n3_
 have HB := n4_
 clear n0_ n1_ n2_ n3_ n4_
 replace BK183 := Aside0.mk (blk_drew BK183.out)
 replace BK184 := Aside0.mk (blk_drew BK184.out)
 replace BK185 := Aside0.mk (blk_drew BK185.out)
 replace BK188 := Aside0.mk (blk_drew BK188.out)
 replace HB := Aside0.mk (below_drew1 HB.out)
 refine start_ (n := 12) (S := fun w' => w'.cell? ⟨gb183, 0, none⟩ = some (.bool a0_0) ∧ w'.cell? ⟨gb183, 1, none⟩ = some (.int .u64 a0_1) ∧ w'.cell? ⟨gb183, 2, none⟩ = some (.int .u64 a0_2) ∧ w'.cell? ⟨gb188, 0, none⟩ = some (.int .u64 t186) ∧ w'.cell? ⟨gb188, 1, none⟩ = some (.int .u64 t187) ∧ w'.cell? ⟨gb184, 0, none⟩ = some (.bool a1_0) ∧ w'.cell? ⟨gb184, 1, none⟩ = some (.int .u64 a1_1) ∧ w'.cell? ⟨gb184, 2, none⟩ = some (.int .u64 a1_2)) (ds := []) #[false, false, false, false, false, false, false, false, false, false, false, false] (by kernel_rfl) rfl rfl ⟨ck BK183 0, ck BK183 1, ck BK183 2, ck BK188 0, ck BK188 1, ck BK184 0, ck BK184 1, ck BK184 2⟩ (fun hHeld => ?_); refine with_tabW ratio_lowest.tab2 ratio_lowest.bits2 (fun HT_ HW_ => ?_)
 generalize w21.drew = w22 at BK183 BK184 BK185 BK188 HB hHeld ⊢
 refine pure_ (i := 0) (N := some 18) (v := ?_) (a' := ?_) #[true, false, false, false, false, false, false, false, false, false, false, false] rfl rfl (any_of HT_.out (by kernel_rfl)) (fun _ _ _ h => h) (Or.inl ⟨by rfl, ?_⟩) ?_ ?_
 rotate_left
 ·intro w'
  go_simp
  with_reducible rfl
 rotate_left
 ·simp only [Act.put, List.setIfInBounds_toArray, List.set_cons_zero, List.set_cons_succ, i64_w, i32_w]
  rfl
 refine pure_ (i := 4) (N := some 22) (v := ?_) (a' := ?_) #[true, false, false, false, true, false, false, false, false, false, false, false] rfl rfl (any_of HT_.out (by kernel_rfl)) (fun _ _ _ h => h) (Or.inl ⟨by rfl, ?_⟩) ?_ ?_
 rotate_left
 ·intro w'
  go_simp
  with_reducible rfl
 rotate_left
 ·simp only [Act.put, List.setIfInBounds_toArray, List.set_cons_zero, List.set_cons_succ, i64_w, i32_w]
  rfl
 refine take_ (i := 1) (N := some 19) (v := ?_) (a' := ?_) #[true, true, false, false, true, false, false, false, false, false, false, false] rfl rfl (take_ofW HT_.out HW_.out (by kernel_rfl)) (fun _ _ _ h => h) (Or.inl ⟨by rfl, ?_⟩) hHeld ?_ ?_
 rotate_left
 ·rintro w' ⟨s0, s1, s2, s3, s4, s5, s6, s7⟩
  go_simp
  with_reducible rfl
 rotate_left
 ·simp only [Act.put, List.setIfInBounds_toArray, List.set_cons_zero, List.set_cons_succ, i64_w, i32_w]
  rfl
 refine take_ (i := 2) (N := some 20) (v := ?_) (a' := ?_) #[true, true, true, false, true, false, false, false, false, false, false, false] rfl rfl (take_ofW HT_.out HW_.out (by kernel_rfl)) (fun _ _ _ h => h) (Or.inl ⟨by rfl, ?_⟩) hHeld ?_ ?_
 rotate_left
 ·rintro w' ⟨s0, s1, s2, s3, s4, s5, s6, s7⟩
  go_simp
  with_reducible rfl
 rotate_left
 ·simp only [Act.put, List.setIfInBounds_toArray, List.set_cons_zero, List.set_cons_succ, i64_w, i32_w]
  rfl
 refine take_ (i := 5) (N := some 23) (v := ?_) (a' := ?_) #[true, true, true, false, true, true, false, false, false, false, false, false] rfl rfl (take_ofW HT_.out HW_.out (by kernel_rfl)) (fun _ _ _ h => h) (Or.inl ⟨by rfl, ?_⟩) hHeld ?_ ?_
 rotate_left
 ·rintro w' ⟨s0, s1, s2, s3, s4, s5, s6, s7⟩
  go_simp
  with_reducible rfl
 rotate_left
 ·simp only [Act.put, List.setIfInBounds_toArray, List.set_cons_zero, List.set_cons_succ, i64_w, i32_w]
  rfl
 refine take_ (i := 6) (N := some 24) (v := ?_) (a' := ?_) #[true, true, true, false, true, true, true, false, false, false, false, false] rfl rfl (take_ofW HT_.out HW_.out (by kernel_rfl)) (fun _ _ _ h => h) (Or.inl ⟨by rfl, ?_⟩) hHeld ?_ ?_
 rotate_left
 ·rintro w' ⟨s0, s1, s2, s3, s4, s5, s6, s7⟩
  go_simp
  with_reducible rfl
 rotate_left
 ·simp only [Act.put, List.setIfInBounds_toArray, List.set_cons_zero, List.set_cons_succ, i64_w, i32_w]
  rfl
 refine join_ (σ := Nat × Nat) 2 #[true, true, true, true, true, true, true, true, true, true, false, false] (fun s_ => [(21, .agg #[.int .u64 t189, .int .u64 t190]), (25, .agg #[.int .u64 t191, .int .u64 t192]), (7, .pointer (some ⟨s_.1, 0, none⟩)), (8, .pointer (some ⟨s_.2, 0, none⟩))]) (fun s_ w' => (w'.cell? ⟨gb183, 0, none⟩ = some (.bool a0_0) ∧ w'.cell? ⟨gb183, 1, none⟩ = some (.int .u64 a0_1) ∧ w'.cell? ⟨gb183, 2, none⟩ = some (.int .u64 a0_2) ∧ w'.cell? ⟨gb188, 0, none⟩ = some (.int .u64 t186) ∧ w'.cell? ⟨gb188, 1, none⟩ = some (.int .u64 t187) ∧ w'.cell? ⟨gb184, 0, none⟩ = some (.bool a1_0) ∧ w'.cell? ⟨gb184, 1, none⟩ = some (.int .u64 a1_1) ∧ w'.cell? ⟨gb184, 2, none⟩ = some (.int .u64 a1_2)) ∧ (w'.heap[gb183]? = some (.cells #[.bool a0_0, .int .u64 a0_1, .int .u64 a0_2] 49 (0, 0))) ∧ (w'.heap[gb184]? = some (.cells #[.bool a1_0, .int .u64 a1_1, .int .u64 a1_2] 49 (0, 0))) ∧ (w'.heap[gb185]? = some (.cells #[.int .i64 0, .int .i64 0] 24 (0, 0))) ∧ (w'.heap[gb188]? = some (.cells #[.int .u64 t186, .int .u64 t187] 47 (0, 0))) ∧ (w'.heap[s_.1]? = some (.cells #[.int .u64 0, .int .u64 0] 47 (0, 0))) ∧ (w'.heap[s_.2]? = some (.cells #[.int .u64 0, .int .u64 0] 47 (0, 0))) ∧ (w.heap.size ≤ s_.1) ∧ (w.heap.size ≤ s_.1) ∧ (gb183 ≠ s_.1) ∧ (s_.1 ≠ gb183) ∧ (gb184 ≠ s_.1) ∧ (s_.1 ≠ gb184) ∧ (gb185 ≠ s_.1) ∧ (s_.1 ≠ gb185) ∧ (gb188 ≠ s_.1) ∧ (s_.1 ≠ gb188) ∧ (s_.2 ≠ s_.1) ∧ (s_.1 ≠ s_.2) ∧ (w.heap.size ≤ s_.2) ∧ (w.heap.size ≤ s_.2) ∧ (gb183 ≠ s_.2) ∧ (s_.2 ≠ gb183) ∧ (gb184 ≠ s_.2) ∧ (s_.2 ≠ gb184) ∧ (gb185 ≠ s_.2) ∧ (s_.2 ≠ gb185) ∧ (gb188 ≠ s_.2) ∧ (s_.2 ≠ gb188) ∧ (Below w.heap.size w w')) ?_ ?_
 rotate_left
 ·intro hJ3_7_8_9
  refine join_ (σ := Nat) 3 #[true, true, true, true, true, true, true, true, true, false, false, false] (fun s_ => [(21, .agg #[.int .u64 t189, .int .u64 t190]), (25, .agg #[.int .u64 t191, .int .u64 t192]), (7, .pointer (some ⟨s_, 0, none⟩))]) (fun s_ w' => (w'.cell? ⟨gb183, 0, none⟩ = some (.bool a0_0) ∧ w'.cell? ⟨gb183, 1, none⟩ = some (.int .u64 a0_1) ∧ w'.cell? ⟨gb183, 2, none⟩ = some (.int .u64 a0_2) ∧ w'.cell? ⟨gb188, 0, none⟩ = some (.int .u64 t186) ∧ w'.cell? ⟨gb188, 1, none⟩ = some (.int .u64 t187) ∧ w'.cell? ⟨gb184, 0, none⟩ = some (.bool a1_0) ∧ w'.cell? ⟨gb184, 1, none⟩ = some (.int .u64 a1_1) ∧ w'.cell? ⟨gb184, 2, none⟩ = some (.int .u64 a1_2)) ∧ (w'.heap[gb183]? = some (.cells #[.bool a0_0, .int .u64 a0_1, .int .u64 a0_2] 49 (0, 0))) ∧ (w'.heap[gb184]? = some (.cells #[.bool a1_0, .int .u64 a1_1, .int .u64 a1_2] 49 (0, 0))) ∧ (w'.heap[gb185]? = some (.cells #[.int .i64 0, .int .i64 0] 24 (0, 0))) ∧ (w'.heap[gb188]? = some (.cells #[.int .u64 t186, .int .u64 t187] 47 (0, 0))) ∧ (w'.heap[s_]? = some (.cells #[.int .u64 0, .int .u64 0] 47 (0, 0))) ∧ (w.heap.size ≤ s_) ∧ (w.heap.size ≤ s_) ∧ (gb183 ≠ s_) ∧ (s_ ≠ gb183) ∧ (gb184 ≠ s_) ∧ (s_ ≠ gb184) ∧ (gb185 ≠ s_) ∧ (s_ ≠ gb185) ∧ (gb188 ≠ s_) ∧ (s_ ≠ gb188) ∧ (Below w.heap.size w w')) ?_ ?_
  rotate_left
  ·intro hJ3_7_8
   refine join_ (σ := Nat) 3 #[true, true, true, true, true, true, true, true, false, true, false, false] (fun s_ => [(21, .agg #[.int .u64 t189, .int .u64 t190]), (25, .agg #[.int .u64 t191, .int .u64 t192]), (8, .pointer (some ⟨s_, 0, none⟩))]) (fun s_ w' => (w'.cell? ⟨gb183, 0, none⟩ = some (.bool a0_0) ∧ w'.cell? ⟨gb183, 1, none⟩ = some (.int .u64 a0_1) ∧ w'.cell? ⟨gb183, 2, none⟩ = some (.int .u64 a0_2) ∧ w'.cell? ⟨gb188, 0, none⟩ = some (.int .u64 t186) ∧ w'.cell? ⟨gb188, 1, none⟩ = some (.int .u64 t187) ∧ w'.cell? ⟨gb184, 0, none⟩ = some (.bool a1_0) ∧ w'.cell? ⟨gb184, 1, none⟩ = some (.int .u64 a1_1) ∧ w'.cell? ⟨gb184, 2, none⟩ = some (.int .u64 a1_2)) ∧ (w'.heap[gb183]? = some (.cells #[.bool a0_0, .int .u64 a0_1, .int .u64 a0_2] 49 (0, 0))) ∧ (w'.heap[gb184]? = some (.cells #[.bool a1_0, .int .u64 a1_1, .int .u64 a1_2] 49 (0, 0))) ∧ (w'.heap[gb185]? = some (.cells #[.int .i64 0, .int .i64 0] 24 (0, 0))) ∧ (w'.heap[gb188]? = some (.cells #[.int .u64 t186, .int .u64 t187] 47 (0, 0))) ∧ (w'.heap[s_]? = some (.cells #[.int .u64 0, .int .u64 0] 47 (0, 0))) ∧ (w.heap.size ≤ s_) ∧ (w.heap.size ≤ s_) ∧ (gb183 ≠ s_) ∧ (s_ ≠ gb183) ∧ (gb184 ≠ s_) ∧ (s_ ≠ gb184) ∧ (gb185 ≠ s_) ∧ (s_ ≠ gb185) ∧ (gb188 ≠ s_) ∧ (s_ ≠ gb188) ∧ (Below w.heap.size w w')) ?_ ?_
   rotate_left
   ·intro hJ3_7_9
    refine join_ (σ := Nat × Nat) 3 #[true, true, true, true, true, true, true, false, true, true, false, false] (fun s_ => [(21, .agg #[.int .u64 t189, .int .u64 t190]), (7, .pointer (some ⟨s_.1, 0, none⟩)), (8, .pointer (some ⟨s_.2, 0, none⟩))]) (fun s_ w' => (w'.cell? ⟨gb183, 0, none⟩ = some (.bool a0_0) ∧ w'.cell? ⟨gb183, 1, none⟩ = some (.int .u64 a0_1) ∧ w'.cell? ⟨gb183, 2, none⟩ = some (.int .u64 a0_2) ∧ w'.cell? ⟨gb188, 0, none⟩ = some (.int .u64 t186) ∧ w'.cell? ⟨gb188, 1, none⟩ = some (.int .u64 t187) ∧ w'.cell? ⟨gb184, 0, none⟩ = some (.bool a1_0) ∧ w'.cell? ⟨gb184, 1, none⟩ = some (.int .u64 a1_1) ∧ w'.cell? ⟨gb184, 2, none⟩ = some (.int .u64 a1_2)) ∧ (w'.heap[gb183]? = some (.cells #[.bool a0_0, .int .u64 a0_1, .int .u64 a0_2] 49 (0, 0))) ∧ (w'.heap[gb184]? = some (.cells #[.bool a1_0, .int .u64 a1_1, .int .u64 a1_2] 49 (0, 0))) ∧ (w'.heap[gb185]? = some (.cells #[.int .i64 0, .int .i64 0] 24 (0, 0))) ∧ (w'.heap[gb188]? = some (.cells #[.int .u64 t186, .int .u64 t187] 47 (0, 0))) ∧ (w'.heap[s_.1]? = some (.cells #[.int .u64 0, .int .u64 0] 47 (0, 0))) ∧ (w'.heap[s_.2]? = some (.cells #[.int .u64 0, .int .u64 0] 47 (0, 0))) ∧ (w.heap.size ≤ s_.1) ∧ (w.heap.size ≤ s_.1) ∧ (gb183 ≠ s_.1) ∧ (s_.1 ≠ gb183) ∧ (gb184 ≠ s_.1) ∧ (s_.1 ≠ gb184) ∧ (gb185 ≠ s_.1) ∧ (s_.1 ≠ gb185) ∧ (gb188 ≠ s_.1) ∧ (s_.1 ≠ gb188) ∧ (s_.2 ≠ s_.1) ∧ (s_.1 ≠ s_.2) ∧ (w.heap.size ≤ s_.2) ∧ (w.heap.size ≤ s_.2) ∧ (gb183 ≠ s_.2) ∧ (s_.2 ≠ gb183) ∧ (gb184 ≠ s_.2) ∧ (s_.2 ≠ gb184) ∧ (gb185 ≠ s_.2) ∧ (s_.2 ≠ gb185) ∧ (gb188 ≠ s_.2) ∧ (s_.2 ≠ gb188) ∧ (Below w.heap.size w w')) ?_ ?_
    rotate_left
    ·intro hJ3_8_9
     refine join_ (σ := Unit) 4 #[true, true, true, true, true, true, true, true, false, false, false, false] (fun s_ => [(21, .agg #[.int .u64 t189, .int .u64 t190]), (25, .agg #[.int .u64 t191, .int .u64 t192])]) (fun s_ w' => (w'.cell? ⟨gb183, 0, none⟩ = some (.bool a0_0) ∧ w'.cell? ⟨gb183, 1, none⟩ = some (.int .u64 a0_1) ∧ w'.cell? ⟨gb183, 2, none⟩ = some (.int .u64 a0_2) ∧ w'.cell? ⟨gb188, 0, none⟩ = some (.int .u64 t186) ∧ w'.cell? ⟨gb188, 1, none⟩ = some (.int .u64 t187) ∧ w'.cell? ⟨gb184, 0, none⟩ = some (.bool a1_0) ∧ w'.cell? ⟨gb184, 1, none⟩ = some (.int .u64 a1_1) ∧ w'.cell? ⟨gb184, 2, none⟩ = some (.int .u64 a1_2)) ∧ (w'.heap[gb183]? = some (.cells #[.bool a0_0, .int .u64 a0_1, .int .u64 a0_2] 49 (0, 0))) ∧ (w'.heap[gb184]? = some (.cells #[.bool a1_0, .int .u64 a1_1, .int .u64 a1_2] 49 (0, 0))) ∧ (w'.heap[gb185]? = some (.cells #[.int .i64 0, .int .i64 0] 24 (0, 0))) ∧ (w'.heap[gb188]? = some (.cells #[.int .u64 t186, .int .u64 t187] 47 (0, 0))) ∧ (Below w.heap.size w w')) ?_ ?_
     rotate_left
     ·intro hJ3_7
      refine join_ (σ := Nat) 4 #[true, true, true, true, true, true, true, false, true, false, false, false] (fun s_ => [(21, .agg #[.int .u64 t189, .int .u64 t190]), (7, .pointer (some ⟨s_, 0, none⟩))]) (fun s_ w' => (w'.cell? ⟨gb183, 0, none⟩ = some (.bool a0_0) ∧ w'.cell? ⟨gb183, 1, none⟩ = some (.int .u64 a0_1) ∧ w'.cell? ⟨gb183, 2, none⟩ = some (.int .u64 a0_2) ∧ w'.cell? ⟨gb188, 0, none⟩ = some (.int .u64 t186) ∧ w'.cell? ⟨gb188, 1, none⟩ = some (.int .u64 t187) ∧ w'.cell? ⟨gb184, 0, none⟩ = some (.bool a1_0) ∧ w'.cell? ⟨gb184, 1, none⟩ = some (.int .u64 a1_1) ∧ w'.cell? ⟨gb184, 2, none⟩ = some (.int .u64 a1_2)) ∧ (w'.heap[gb183]? = some (.cells #[.bool a0_0, .int .u64 a0_1, .int .u64 a0_2] 49 (0, 0))) ∧ (w'.heap[gb184]? = some (.cells #[.bool a1_0, .int .u64 a1_1, .int .u64 a1_2] 49 (0, 0))) ∧ (w'.heap[gb185]? = some (.cells #[.int .i64 0, .int .i64 0] 24 (0, 0))) ∧ (w'.heap[gb188]? = some (.cells #[.int .u64 t186, .int .u64 t187] 47 (0, 0))) ∧ (w'.heap[s_]? = some (.cells #[.int .u64 0, .int .u64 0] 47 (0, 0))) ∧ (w.heap.size ≤ s_) ∧ (w.heap.size ≤ s_) ∧ (gb183 ≠ s_) ∧ (s_ ≠ gb183) ∧ (gb184 ≠ s_) ∧ (s_ ≠ gb184) ∧ (gb185 ≠ s_) ∧ (s_ ≠ gb185) ∧ (gb188 ≠ s_) ∧ (s_ ≠ gb188) ∧ (Below w.heap.size w w')) ?_ ?_
      rotate_left
      ·intro hJ3_8
       refine join_ (σ := Nat) 4 #[true, true, true, true, true, true, true, false, false, true, false, false] (fun s_ => [(21, .agg #[.int .u64 t189, .int .u64 t190]), (8, .pointer (some ⟨s_, 0, none⟩))]) (fun s_ w' => (w'.cell? ⟨gb183, 0, none⟩ = some (.bool a0_0) ∧ w'.cell? ⟨gb183, 1, none⟩ = some (.int .u64 a0_1) ∧ w'.cell? ⟨gb183, 2, none⟩ = some (.int .u64 a0_2) ∧ w'.cell? ⟨gb188, 0, none⟩ = some (.int .u64 t186) ∧ w'.cell? ⟨gb188, 1, none⟩ = some (.int .u64 t187) ∧ w'.cell? ⟨gb184, 0, none⟩ = some (.bool a1_0) ∧ w'.cell? ⟨gb184, 1, none⟩ = some (.int .u64 a1_1) ∧ w'.cell? ⟨gb184, 2, none⟩ = some (.int .u64 a1_2)) ∧ (w'.heap[gb183]? = some (.cells #[.bool a0_0, .int .u64 a0_1, .int .u64 a0_2] 49 (0, 0))) ∧ (w'.heap[gb184]? = some (.cells #[.bool a1_0, .int .u64 a1_1, .int .u64 a1_2] 49 (0, 0))) ∧ (w'.heap[gb185]? = some (.cells #[.int .i64 0, .int .i64 0] 24 (0, 0))) ∧ (w'.heap[gb188]? = some (.cells #[.int .u64 t186, .int .u64 t187] 47 (0, 0))) ∧ (w'.heap[s_]? = some (.cells #[.int .u64 0, .int .u64 0] 47 (0, 0))) ∧ (w.heap.size ≤ s_) ∧ (w.heap.size ≤ s_) ∧ (gb183 ≠ s_) ∧ (s_ ≠ gb183) ∧ (gb184 ≠ s_) ∧ (s_ ≠ gb184) ∧ (gb185 ≠ s_) ∧ (s_ ≠ gb185) ∧ (gb188 ≠ s_) ∧ (s_ ≠ gb188) ∧ (Below w.heap.size w w')) ?_ ?_
       rotate_left
       ·intro hJ3_9
        refine join_ (σ := Nat × Nat) 4 #[true, true, true, false, true, true, true, false, true, true, false, false] (fun s_ => [(7, .pointer (some ⟨s_.1, 0, none⟩)), (8, .pointer (some ⟨s_.2, 0, none⟩))]) (fun s_ w' => (w'.cell? ⟨gb183, 0, none⟩ = some (.bool a0_0) ∧ w'.cell? ⟨gb183, 1, none⟩ = some (.int .u64 a0_1) ∧ w'.cell? ⟨gb183, 2, none⟩ = some (.int .u64 a0_2) ∧ w'.cell? ⟨gb188, 0, none⟩ = some (.int .u64 t186) ∧ w'.cell? ⟨gb188, 1, none⟩ = some (.int .u64 t187) ∧ w'.cell? ⟨gb184, 0, none⟩ = some (.bool a1_0) ∧ w'.cell? ⟨gb184, 1, none⟩ = some (.int .u64 a1_1) ∧ w'.cell? ⟨gb184, 2, none⟩ = some (.int .u64 a1_2)) ∧ (w'.heap[gb183]? = some (.cells #[.bool a0_0, .int .u64 a0_1, .int .u64 a0_2] 49 (0, 0))) ∧ (w'.heap[gb184]? = some (.cells #[.bool a1_0, .int .u64 a1_1, .int .u64 a1_2] 49 (0, 0))) ∧ (w'.heap[gb185]? = some (.cells #[.int .i64 0, .int .i64 0] 24 (0, 0))) ∧ (w'.heap[gb188]? = some (.cells #[.int .u64 t186, .int .u64 t187] 47 (0, 0))) ∧ (w'.heap[s_.1]? = some (.cells #[.int .u64 0, .int .u64 0] 47 (0, 0))) ∧ (w'.heap[s_.2]? = some (.cells #[.int .u64 0, .int .u64 0] 47 (0, 0))) ∧ (w.heap.size ≤ s_.1) ∧ (w.heap.size ≤ s_.1) ∧ (gb183 ≠ s_.1) ∧ (s_.1 ≠ gb183) ∧ (gb184 ≠ s_.1) ∧ (s_.1 ≠ gb184) ∧ (gb185 ≠ s_.1) ∧ (s_.1 ≠ gb185) ∧ (gb188 ≠ s_.1) ∧ (s_.1 ≠ gb188) ∧ (s_.2 ≠ s_.1) ∧ (s_.1 ≠ s_.2) ∧ (w.heap.size ≤ s_.2) ∧ (w.heap.size ≤ s_.2) ∧ (gb183 ≠ s_.2) ∧ (s_.2 ≠ gb183) ∧ (gb184 ≠ s_.2) ∧ (s_.2 ≠ gb184) ∧ (gb185 ≠ s_.2) ∧ (s_.2 ≠ gb185) ∧ (gb188 ≠ s_.2) ∧ (s_.2 ≠ gb188) ∧ (Below w.heap.size w w')) ?_ ?_
        rotate_left
        ·intro hJ8_9
         refine join_ (σ := Unit) 5 #[true, true, true, true, true, true, true, false, false, false, false, false] (fun s_ => [(21, .agg #[.int .u64 t189, .int .u64 t190])]) (fun s_ w' => (w'.cell? ⟨gb183, 0, none⟩ = some (.bool a0_0) ∧ w'.cell? ⟨gb183, 1, none⟩ = some (.int .u64 a0_1) ∧ w'.cell? ⟨gb183, 2, none⟩ = some (.int .u64 a0_2) ∧ w'.cell? ⟨gb188, 0, none⟩ = some (.int .u64 t186) ∧ w'.cell? ⟨gb188, 1, none⟩ = some (.int .u64 t187) ∧ w'.cell? ⟨gb184, 0, none⟩ = some (.bool a1_0) ∧ w'.cell? ⟨gb184, 1, none⟩ = some (.int .u64 a1_1) ∧ w'.cell? ⟨gb184, 2, none⟩ = some (.int .u64 a1_2)) ∧ (w'.heap[gb183]? = some (.cells #[.bool a0_0, .int .u64 a0_1, .int .u64 a0_2] 49 (0, 0))) ∧ (w'.heap[gb184]? = some (.cells #[.bool a1_0, .int .u64 a1_1, .int .u64 a1_2] 49 (0, 0))) ∧ (w'.heap[gb185]? = some (.cells #[.int .i64 0, .int .i64 0] 24 (0, 0))) ∧ (w'.heap[gb188]? = some (.cells #[.int .u64 t186, .int .u64 t187] 47 (0, 0))) ∧ (Below w.heap.size w w')) ?_ ?_
         rotate_left
         ·intro hJ3
          refine join_ (σ := Nat) 5 #[true, true, true, false, true, true, true, false, true, false, false, false] (fun s_ => [(7, .pointer (some ⟨s_, 0, none⟩))]) (fun s_ w' => (w'.cell? ⟨gb183, 0, none⟩ = some (.bool a0_0) ∧ w'.cell? ⟨gb183, 1, none⟩ = some (.int .u64 a0_1) ∧ w'.cell? ⟨gb183, 2, none⟩ = some (.int .u64 a0_2) ∧ w'.cell? ⟨gb188, 0, none⟩ = some (.int .u64 t186) ∧ w'.cell? ⟨gb188, 1, none⟩ = some (.int .u64 t187) ∧ w'.cell? ⟨gb184, 0, none⟩ = some (.bool a1_0) ∧ w'.cell? ⟨gb184, 1, none⟩ = some (.int .u64 a1_1) ∧ w'.cell? ⟨gb184, 2, none⟩ = some (.int .u64 a1_2)) ∧ (w'.heap[gb183]? = some (.cells #[.bool a0_0, .int .u64 a0_1, .int .u64 a0_2] 49 (0, 0))) ∧ (w'.heap[gb184]? = some (.cells #[.bool a1_0, .int .u64 a1_1, .int .u64 a1_2] 49 (0, 0))) ∧ (w'.heap[gb185]? = some (.cells #[.int .i64 0, .int .i64 0] 24 (0, 0))) ∧ (w'.heap[gb188]? = some (.cells #[.int .u64 t186, .int .u64 t187] 47 (0, 0))) ∧ (w'.heap[s_]? = some (.cells #[.int .u64 0, .int .u64 0] 47 (0, 0))) ∧ (w.heap.size ≤ s_) ∧ (w.heap.size ≤ s_) ∧ (gb183 ≠ s_) ∧ (s_ ≠ gb183) ∧ (gb184 ≠ s_) ∧ (s_ ≠ gb184) ∧ (gb185 ≠ s_) ∧ (s_ ≠ gb185) ∧ (gb188 ≠ s_) ∧ (s_ ≠ gb188) ∧ (Below w.heap.size w w')) ?_ ?_
          rotate_left
          ·intro hJ8
           refine join_ (σ := Nat) 5 #[true, true, true, false, true, true, true, false, false, true, false, false] (fun s_ => [(8, .pointer (some ⟨s_, 0, none⟩))]) (fun s_ w' => (w'.cell? ⟨gb183, 0, none⟩ = some (.bool a0_0) ∧ w'.cell? ⟨gb183, 1, none⟩ = some (.int .u64 a0_1) ∧ w'.cell? ⟨gb183, 2, none⟩ = some (.int .u64 a0_2) ∧ w'.cell? ⟨gb188, 0, none⟩ = some (.int .u64 t186) ∧ w'.cell? ⟨gb188, 1, none⟩ = some (.int .u64 t187) ∧ w'.cell? ⟨gb184, 0, none⟩ = some (.bool a1_0) ∧ w'.cell? ⟨gb184, 1, none⟩ = some (.int .u64 a1_1) ∧ w'.cell? ⟨gb184, 2, none⟩ = some (.int .u64 a1_2)) ∧ (w'.heap[gb183]? = some (.cells #[.bool a0_0, .int .u64 a0_1, .int .u64 a0_2] 49 (0, 0))) ∧ (w'.heap[gb184]? = some (.cells #[.bool a1_0, .int .u64 a1_1, .int .u64 a1_2] 49 (0, 0))) ∧ (w'.heap[gb185]? = some (.cells #[.int .i64 0, .int .i64 0] 24 (0, 0))) ∧ (w'.heap[gb188]? = some (.cells #[.int .u64 t186, .int .u64 t187] 47 (0, 0))) ∧ (w'.heap[s_]? = some (.cells #[.int .u64 0, .int .u64 0] 47 (0, 0))) ∧ (w.heap.size ≤ s_) ∧ (w.heap.size ≤ s_) ∧ (gb183 ≠ s_) ∧ (s_ ≠ gb183) ∧ (gb184 ≠ s_) ∧ (s_ ≠ gb184) ∧ (gb185 ≠ s_) ∧ (s_ ≠ gb185) ∧ (gb188 ≠ s_) ∧ (s_ ≠ gb188) ∧ (Below w.heap.size w w')) ?_ ?_
           rotate_left
           ·intro hJ9
            refine three_ (i := 3) (j := 8) (k := 9) (Ni := some 21) (Nj := some 7) (Nk := some 8) #[true, true, true, true, true, true, true, false, false, false, false, false] #[true, true, true, false, true, true, true, false, true, false, false, false] #[true, true, true, false, true, true, true, false, false, true, false, false] rfl rfl rfl rfl rfl rfl (three_of HT_.out (by kernel_rfl)) (by decide) (by decide) (by decide) (fun K hK => ?_) (fun K hK => ?_) (fun K hK => ?_)
            ·skip
             refine goes_ Tryd.func44 (by kernel_rfl) rfl #[.agg #[.int .u64 a0_1, .int .u64 a0_2], .agg #[.int .u64 t186, .int .u64 t187]] (by rfl) rfl rfl gm_ ?_
             with_reducible refine (ratio_part.calls k a0_1 a0_2 t186 t187 t189 t190 _ A4.out).mono ?_
             rintro e w23 ⟨rfl, hb⟩
             refine ⟨_, rfl, ?_⟩
             replace BK183 := Aside0.mk (blk_below (kb BK183) hb)
             replace BK184 := Aside0.mk (blk_below (kb BK184) hb)
             replace BK185 := Aside0.mk (blk_below (kb BK185) hb)
             replace BK188 := Aside0.mk (blk_below (kb BK188) hb)
             replace HB := Aside0.mk (below_step (bl HB) hb)
             (try clear hb)
             (try clear hb2)
             (try clear hk)
             (try clear hi)
             refine hK.out _ _ ⟨ck BK183 0, ck BK183 1, ck BK183 2, ck BK188 0, ck BK188 1, ck BK184 0, ck BK184 1, ck BK184 2⟩ (fun hHeld => ?_)
             clear hK K
             refine norm_ (a' := ?_) ?_ ?_
             rotate_left
             ·show Act.put _ (some 21) _ = _
              simp only [Act.put, List.setIfInBounds_toArray, List.set_cons_zero, List.set_cons_succ, i64_w, i32_w]
              rfl
             exact norm_ nm_ (hJ3 () _ ⟨hHeld, (kb BK183), (kb BK184), (kb BK185), (kb BK188), (bl HB)⟩)
            ·skip
             refine box_step ?hg (N := 7) ?hd (cs := #[.int .u64 0, .int .u64 0]) (t := 47) ?hr ?_; (case hd => rfl); (case hg => rfl); (case hr => exact gs_)
             intro gb193 hg w23 hbox hb
             have BK193 := Aside0.mk (hbox)
             have GW193 := Aside0.mk ((by rw [hg]; exact (below_size (bl HB)) : w.heap.size ≤ gb193))
             have GE193 := Aside0.mk ((by rw [hg]; exact (below_size (bl HB)) : w.heap.size ≤ gb193))
             replace HB := Aside0.mk (below_step (bl HB) hb)
             have NB183_193 := Aside0.mk ((by rw [hg]; exact Nat.ne_of_lt (blk_lt (kb BK183)) : gb183 ≠ gb193))
             have NB193_183 := Aside0.mk ((by rw [hg]; exact Nat.ne_of_gt (blk_lt (kb BK183)) : gb193 ≠ gb183))
             replace BK183 := Aside0.mk (blk_below (kb BK183) hb)
             have NB184_193 := Aside0.mk ((by rw [hg]; exact Nat.ne_of_lt (blk_lt (kb BK184)) : gb184 ≠ gb193))
             have NB193_184 := Aside0.mk ((by rw [hg]; exact Nat.ne_of_gt (blk_lt (kb BK184)) : gb193 ≠ gb184))
             replace BK184 := Aside0.mk (blk_below (kb BK184) hb)
             have NB185_193 := Aside0.mk ((by rw [hg]; exact Nat.ne_of_lt (blk_lt (kb BK185)) : gb185 ≠ gb193))
             have NB193_185 := Aside0.mk ((by rw [hg]; exact Nat.ne_of_gt (blk_lt (kb BK185)) : gb193 ≠ gb185))
             replace BK185 := Aside0.mk (blk_below (kb BK185) hb)
             have NB188_193 := Aside0.mk ((by rw [hg]; exact Nat.ne_of_lt (blk_lt (kb BK188)) : gb188 ≠ gb193))
             have NB193_188 := Aside0.mk ((by rw [hg]; exact Nat.ne_of_gt (blk_lt (kb BK188)) : gb193 ≠ gb188))
             replace BK188 := Aside0.mk (blk_below (kb BK188) hb)
             clear hb hbox hg
             refine hK.out _ _ ⟨ck BK183 0, ck BK183 1, ck BK183 2, ck BK188 0, ck BK188 1, ck BK184 0, ck BK184 1, ck BK184 2⟩ (fun hHeld => ?_)
             clear hK K
             refine norm_ (a' := ?_) ?_ ?_
             rotate_left
             ·show Act.put _ (some 7) _ = _
              simp only [Act.put, List.setIfInBounds_toArray, List.set_cons_zero, List.set_cons_succ, i64_w, i32_w]
              rfl
             exact norm_ nm_ (hJ8 (gb193) _ ⟨hHeld, (kb BK183), (kb BK184), (kb BK185), (kb BK188), (kb BK193), GW193.out, GE193.out, NB183_193.out, NB193_183.out, NB184_193.out, NB193_184.out, NB185_193.out, NB193_185.out, NB188_193.out, NB193_188.out, (bl HB)⟩)
            ·skip
             refine box_step ?hg (N := 8) ?hd (cs := #[.int .u64 0, .int .u64 0]) (t := 47) ?hr ?_; (case hd => rfl); (case hg => rfl); (case hr => exact gs_)
             intro gb194 hg w23 hbox hb
             have BK194 := Aside0.mk (hbox)
             have GW194 := Aside0.mk ((by rw [hg]; exact (below_size (bl HB)) : w.heap.size ≤ gb194))
             have GE194 := Aside0.mk ((by rw [hg]; exact (below_size (bl HB)) : w.heap.size ≤ gb194))
             replace HB := Aside0.mk (below_step (bl HB) hb)
             have NB183_194 := Aside0.mk ((by rw [hg]; exact Nat.ne_of_lt (blk_lt (kb BK183)) : gb183 ≠ gb194))
             have NB194_183 := Aside0.mk ((by rw [hg]; exact Nat.ne_of_gt (blk_lt (kb BK183)) : gb194 ≠ gb183))
             replace BK183 := Aside0.mk (blk_below (kb BK183) hb)
             have NB184_194 := Aside0.mk ((by rw [hg]; exact Nat.ne_of_lt (blk_lt (kb BK184)) : gb184 ≠ gb194))
             have NB194_184 := Aside0.mk ((by rw [hg]; exact Nat.ne_of_gt (blk_lt (kb BK184)) : gb194 ≠ gb184))
             replace BK184 := Aside0.mk (blk_below (kb BK184) hb)
             have NB185_194 := Aside0.mk ((by rw [hg]; exact Nat.ne_of_lt (blk_lt (kb BK185)) : gb185 ≠ gb194))
             have NB194_185 := Aside0.mk ((by rw [hg]; exact Nat.ne_of_gt (blk_lt (kb BK185)) : gb194 ≠ gb185))
             replace BK185 := Aside0.mk (blk_below (kb BK185) hb)
             have NB188_194 := Aside0.mk ((by rw [hg]; exact Nat.ne_of_lt (blk_lt (kb BK188)) : gb188 ≠ gb194))
             have NB194_188 := Aside0.mk ((by rw [hg]; exact Nat.ne_of_gt (blk_lt (kb BK188)) : gb194 ≠ gb188))
             replace BK188 := Aside0.mk (blk_below (kb BK188) hb)
             clear hb hbox hg
             refine hK.out _ _ ⟨ck BK183 0, ck BK183 1, ck BK183 2, ck BK188 0, ck BK188 1, ck BK184 0, ck BK184 1, ck BK184 2⟩ (fun hHeld => ?_)
             clear hK K
             refine norm_ (a' := ?_) ?_ ?_
             rotate_left
             ·show Act.put _ (some 8) _ = _
              simp only [Act.put, List.setIfInBounds_toArray, List.set_cons_zero, List.set_cons_succ, i64_w, i32_w]
              rfl
             exact norm_ nm_ (hJ9 (gb194) _ ⟨hHeld, (kb BK183), (kb BK184), (kb BK185), (kb BK188), (kb BK194), GW194.out, GE194.out, NB183_194.out, NB194_183.out, NB184_194.out, NB194_184.out, NB185_194.out, NB194_185.out, NB188_194.out, NB194_188.out, (bl HB)⟩)
           ·skip
            rintro gb194 w24 ⟨hS_, h0_, h1_, h2_, h3_, h4_, h5_, h6_, h7_, h8_, h9_, h10_, h11_, h12_, h13_, h14_, h15_⟩
            have n0_ : Aside0 (w24.heap[gb183]? = some (.cells #[.bool a0_0, .int .u64 a0_1, .int .u64 a0_2] 49 (0, 0))) := ⟨h0_⟩
            have n1_ : Aside0 (w24.heap[gb184]? = some (.cells #[.bool a1_0, .int .u64 a1_1, .int .u64 a1_2] 49 (0, 0))) := ⟨h1_⟩
            have n2_ : Aside0 (w24.heap[gb185]? = some (.cells #[.int .i64 0, .int .i64 0] 24 (0, 0))) := ⟨h2_⟩
            have n3_ : Aside0 (w24.heap[gb188]? = some (.cells #[.int .u64 t186, .int .u64 t187] 47 (0, 0))) := ⟨h3_⟩
            have n4_ : Aside0 (w24.heap[gb194]? = some (.cells #[.int .u64 0, .int .u64 0] 47 (0, 0))) := ⟨h4_⟩
            have n5_ : Aside0 (w.heap.size ≤ gb194) := ⟨h5_⟩
            have n6_ : Aside0 (w.heap.size ≤ gb194) := ⟨h6_⟩
            have n7_ : Aside0 (gb183 ≠ gb194) := ⟨h7_⟩
            have n8_ : Aside0 (gb194 ≠ gb183) := ⟨h8_⟩
            have n9_ : Aside0 (gb184 ≠ gb194) := ⟨h9_⟩
            have n10_ : Aside0 (gb194 ≠ gb184) := ⟨h10_⟩
            have n11_ : Aside0 (gb185 ≠ gb194) := ⟨h11_⟩
            have n12_ : Aside0 (gb194 ≠ gb185) := ⟨h12_⟩
            have n13_ : Aside0 (gb188 ≠ gb194) := ⟨h13_⟩
            have n14_ : Aside0 (gb194 ≠ gb188) := ⟨h14_⟩
            have n15_ : Aside0 (Below w.heap.size w w24) := ⟨h15_⟩
            clear BK183
            clear BK184
            clear BK185
            clear BK188
            clear HB
            clear h0_ h1_ h2_ h3_ h4_ h5_ h6_ h7_ h8_ h9_ h10_ h11_ h12_ h13_ h14_ h15_
            have BK183 := n0_
            have BK184 := n1_
            have BK185 := n2_
            have BK188 := n3_
            have BK194 := n4_
            have GW194 := n5_
            have GE194 := n6_
            have NB183_194 := n7_
            have NB194_183 := n8_
            have NB184_194 := n9_
            have NB194_184 := n10_
            have NB185_194 := n11_
            have NB194_185 := n12_
            have NB188_194 := n13_
            have NB194_188 := n14_
            have HB := n15_
            clear n0_ n1_ n2_ n3_ n4_ n5_ n6_ n7_ n8_ n9_ n10_ n11_ n12_ n13_ n14_ n15_
            have hHeld : w24.cell? ⟨gb183, 0, none⟩ = some (.bool a0_0) ∧ w24.cell? ⟨gb183, 1, none⟩ = some (.int .u64 a0_1) ∧ w24.cell? ⟨gb183, 2, none⟩ = some (.int .u64 a0_2) ∧ w24.cell? ⟨gb188, 0, none⟩ = some (.int .u64 t186) ∧ w24.cell? ⟨gb188, 1, none⟩ = some (.int .u64 t187) ∧ w24.cell? ⟨gb184, 0, none⟩ = some (.bool a1_0) ∧ w24.cell? ⟨gb184, 1, none⟩ = some (.int .u64 a1_1) ∧ w24.cell? ⟨gb184, 2, none⟩ = some (.int .u64 a1_2) := hS_
            refine norm_ (a' := ?_) ?_ ?_
            rotate_left
            ·simp only [putAll, Act.put, List.setIfInBounds_toArray, List.set_cons_zero, List.set_cons_succ]
             rfl
            refine two_ (i := 3) (j := 8) (Ni := some 21) (Nj := some 7) #[true, true, true, true, true, true, true, false, false, true, false, false] #[true, true, true, false, true, true, true, false, true, true, false, false] rfl rfl rfl rfl (two_of HT_.out (by kernel_rfl)) (by decide) (by decide) (fun K hK => ?_) (fun K hK => ?_)
            ·skip
             refine goes_ Tryd.func44 (by kernel_rfl) rfl #[.agg #[.int .u64 a0_1, .int .u64 a0_2], .agg #[.int .u64 t186, .int .u64 t187]] (by rfl) rfl rfl gm_ ?_
             with_reducible refine (ratio_part.calls k a0_1 a0_2 t186 t187 t189 t190 _ A4.out).mono ?_
             rintro e w25 ⟨rfl, hb⟩
             refine ⟨_, rfl, ?_⟩
             replace BK183 := Aside0.mk (blk_below (kb BK183) hb)
             replace BK184 := Aside0.mk (blk_below (kb BK184) hb)
             replace BK185 := Aside0.mk (blk_below (kb BK185) hb)
             replace BK188 := Aside0.mk (blk_below (kb BK188) hb)
             replace BK194 := Aside0.mk (blk_below (kb BK194) hb)
             replace HB := Aside0.mk (below_step (bl HB) hb)
             (try clear hb)
             (try clear hb2)
             (try clear hk)
             (try clear hi)
             refine hK.out _ _ ⟨ck BK183 0, ck BK183 1, ck BK183 2, ck BK188 0, ck BK188 1, ck BK184 0, ck BK184 1, ck BK184 2⟩ (fun hHeld => ?_)
             clear hK K
             refine norm_ (a' := ?_) ?_ ?_
             rotate_left
             ·show Act.put _ (some 21) _ = _
              simp only [Act.put, List.setIfInBounds_toArray, List.set_cons_zero, List.set_cons_succ, i64_w, i32_w]
              rfl
             exact norm_ nm_ (hJ3_9 (gb194) _ ⟨hHeld, (kb BK183), (kb BK184), (kb BK185), (kb BK188), (kb BK194), GW194.out, GE194.out, NB183_194.out, NB194_183.out, NB184_194.out, NB194_184.out, NB185_194.out, NB194_185.out, NB188_194.out, NB194_188.out, (bl HB)⟩)
            ·skip
             refine box_step ?hg (N := 7) ?hd (cs := #[.int .u64 0, .int .u64 0]) (t := 47) ?hr ?_; (case hd => rfl); (case hg => rfl); (case hr => exact gs_)
             intro gb193 hg w25 hbox hb
             have BK193 := Aside0.mk (hbox)
             have GW193 := Aside0.mk ((by rw [hg]; exact (below_size (bl HB)) : w.heap.size ≤ gb193))
             have GE193 := Aside0.mk ((by rw [hg]; exact (below_size (bl HB)) : w.heap.size ≤ gb193))
             replace HB := Aside0.mk (below_step (bl HB) hb)
             have NB183_193 := Aside0.mk ((by rw [hg]; exact Nat.ne_of_lt (blk_lt (kb BK183)) : gb183 ≠ gb193))
             have NB193_183 := Aside0.mk ((by rw [hg]; exact Nat.ne_of_gt (blk_lt (kb BK183)) : gb193 ≠ gb183))
             replace BK183 := Aside0.mk (blk_below (kb BK183) hb)
             have NB184_193 := Aside0.mk ((by rw [hg]; exact Nat.ne_of_lt (blk_lt (kb BK184)) : gb184 ≠ gb193))
             have NB193_184 := Aside0.mk ((by rw [hg]; exact Nat.ne_of_gt (blk_lt (kb BK184)) : gb193 ≠ gb184))
             replace BK184 := Aside0.mk (blk_below (kb BK184) hb)
             have NB185_193 := Aside0.mk ((by rw [hg]; exact Nat.ne_of_lt (blk_lt (kb BK185)) : gb185 ≠ gb193))
             have NB193_185 := Aside0.mk ((by rw [hg]; exact Nat.ne_of_gt (blk_lt (kb BK185)) : gb193 ≠ gb185))
             replace BK185 := Aside0.mk (blk_below (kb BK185) hb)
             have NB188_193 := Aside0.mk ((by rw [hg]; exact Nat.ne_of_lt (blk_lt (kb BK188)) : gb188 ≠ gb193))
             have NB193_188 := Aside0.mk ((by rw [hg]; exact Nat.ne_of_gt (blk_lt (kb BK188)) : gb193 ≠ gb188))
             replace BK188 := Aside0.mk (blk_below (kb BK188) hb)
             have NB194_193 := Aside0.mk ((by rw [hg]; exact Nat.ne_of_lt (blk_lt (kb BK194)) : gb194 ≠ gb193))
             have NB193_194 := Aside0.mk ((by rw [hg]; exact Nat.ne_of_gt (blk_lt (kb BK194)) : gb193 ≠ gb194))
             replace BK194 := Aside0.mk (blk_below (kb BK194) hb)
             clear hb hbox hg
             refine hK.out _ _ ⟨ck BK183 0, ck BK183 1, ck BK183 2, ck BK188 0, ck BK188 1, ck BK184 0, ck BK184 1, ck BK184 2⟩ (fun hHeld => ?_)
             clear hK K
             refine norm_ (a' := ?_) ?_ ?_
             rotate_left
             ·show Act.put _ (some 7) _ = _
              simp only [Act.put, List.setIfInBounds_toArray, List.set_cons_zero, List.set_cons_succ, i64_w, i32_w]
              rfl
             exact norm_ nm_ (hJ8_9 (gb193, gb194) _ ⟨hHeld, (kb BK183), (kb BK184), (kb BK185), (kb BK188), (kb BK193), (kb BK194), GW193.out, GE193.out, NB183_193.out, NB193_183.out, NB184_193.out, NB193_184.out, NB185_193.out, NB193_185.out, NB188_193.out, NB193_188.out, NB194_193.out, NB193_194.out, GW194.out, GE194.out, NB183_194.out, NB194_183.out, NB184_194.out, NB194_184.out, NB185_194.out, NB194_185.out, NB188_194.out, NB194_188.out, (bl HB)⟩)
          ·skip
           rintro gb193 w24 ⟨hS_, h0_, h1_, h2_, h3_, h4_, h5_, h6_, h7_, h8_, h9_, h10_, h11_, h12_, h13_, h14_, h15_⟩
           have n0_ : Aside0 (w24.heap[gb183]? = some (.cells #[.bool a0_0, .int .u64 a0_1, .int .u64 a0_2] 49 (0, 0))) := ⟨h0_⟩
           have n1_ : Aside0 (w24.heap[gb184]? = some (.cells #[.bool a1_0, .int .u64 a1_1, .int .u64 a1_2] 49 (0, 0))) := ⟨h1_⟩
           have n2_ : Aside0 (w24.heap[gb185]? = some (.cells #[.int .i64 0, .int .i64 0] 24 (0, 0))) := ⟨h2_⟩
           have n3_ : Aside0 (w24.heap[gb188]? = some (.cells #[.int .u64 t186, .int .u64 t187] 47 (0, 0))) := ⟨h3_⟩
           have n4_ : Aside0 (w24.heap[gb193]? = some (.cells #[.int .u64 0, .int .u64 0] 47 (0, 0))) := ⟨h4_⟩
           have n5_ : Aside0 (w.heap.size ≤ gb193) := ⟨h5_⟩
           have n6_ : Aside0 (w.heap.size ≤ gb193) := ⟨h6_⟩
           have n7_ : Aside0 (gb183 ≠ gb193) := ⟨h7_⟩
           have n8_ : Aside0 (gb193 ≠ gb183) := ⟨h8_⟩
           have n9_ : Aside0 (gb184 ≠ gb193) := ⟨h9_⟩
           have n10_ : Aside0 (gb193 ≠ gb184) := ⟨h10_⟩
           have n11_ : Aside0 (gb185 ≠ gb193) := ⟨h11_⟩
           have n12_ : Aside0 (gb193 ≠ gb185) := ⟨h12_⟩
           have n13_ : Aside0 (gb188 ≠ gb193) := ⟨h13_⟩
           have n14_ : Aside0 (gb193 ≠ gb188) := ⟨h14_⟩
           have n15_ : Aside0 (Below w.heap.size w w24) := ⟨h15_⟩
           clear BK183
           clear BK184
           clear BK185
           clear BK188
           clear HB
           clear h0_ h1_ h2_ h3_ h4_ h5_ h6_ h7_ h8_ h9_ h10_ h11_ h12_ h13_ h14_ h15_
           have BK183 := n0_
           have BK184 := n1_
           have BK185 := n2_
           have BK188 := n3_
           have BK193 := n4_
           have GW193 := n5_
           have GE193 := n6_
           have NB183_193 := n7_
           have NB193_183 := n8_
           have NB184_193 := n9_
           have NB193_184 := n10_
           have NB185_193 := n11_
           have NB193_185 := n12_
           have NB188_193 := n13_
           have NB193_188 := n14_
           have HB := n15_
           clear n0_ n1_ n2_ n3_ n4_ n5_ n6_ n7_ n8_ n9_ n10_ n11_ n12_ n13_ n14_ n15_
           have hHeld : w24.cell? ⟨gb183, 0, none⟩ = some (.bool a0_0) ∧ w24.cell? ⟨gb183, 1, none⟩ = some (.int .u64 a0_1) ∧ w24.cell? ⟨gb183, 2, none⟩ = some (.int .u64 a0_2) ∧ w24.cell? ⟨gb188, 0, none⟩ = some (.int .u64 t186) ∧ w24.cell? ⟨gb188, 1, none⟩ = some (.int .u64 t187) ∧ w24.cell? ⟨gb184, 0, none⟩ = some (.bool a1_0) ∧ w24.cell? ⟨gb184, 1, none⟩ = some (.int .u64 a1_1) ∧ w24.cell? ⟨gb184, 2, none⟩ = some (.int .u64 a1_2) := hS_
           refine norm_ (a' := ?_) ?_ ?_
           rotate_left
           ·simp only [putAll, Act.put, List.setIfInBounds_toArray, List.set_cons_zero, List.set_cons_succ]
            rfl
           refine two_ (i := 3) (j := 9) (Ni := some 21) (Nj := some 8) #[true, true, true, true, true, true, true, false, true, false, false, false] #[true, true, true, false, true, true, true, false, true, true, false, false] rfl rfl rfl rfl (two_of HT_.out (by kernel_rfl)) (by decide) (by decide) (fun K hK => ?_) (fun K hK => ?_)
           ·skip
            refine goes_ Tryd.func44 (by kernel_rfl) rfl #[.agg #[.int .u64 a0_1, .int .u64 a0_2], .agg #[.int .u64 t186, .int .u64 t187]] (by rfl) rfl rfl gm_ ?_
            with_reducible refine (ratio_part.calls k a0_1 a0_2 t186 t187 t189 t190 _ A4.out).mono ?_
            rintro e w25 ⟨rfl, hb⟩
            refine ⟨_, rfl, ?_⟩
            replace BK183 := Aside0.mk (blk_below (kb BK183) hb)
            replace BK184 := Aside0.mk (blk_below (kb BK184) hb)
            replace BK185 := Aside0.mk (blk_below (kb BK185) hb)
            replace BK188 := Aside0.mk (blk_below (kb BK188) hb)
            replace BK193 := Aside0.mk (blk_below (kb BK193) hb)
            replace HB := Aside0.mk (below_step (bl HB) hb)
            (try clear hb)
            (try clear hb2)
            (try clear hk)
            (try clear hi)
            refine hK.out _ _ ⟨ck BK183 0, ck BK183 1, ck BK183 2, ck BK188 0, ck BK188 1, ck BK184 0, ck BK184 1, ck BK184 2⟩ (fun hHeld => ?_)
            clear hK K
            refine norm_ (a' := ?_) ?_ ?_
            rotate_left
            ·show Act.put _ (some 21) _ = _
             simp only [Act.put, List.setIfInBounds_toArray, List.set_cons_zero, List.set_cons_succ, i64_w, i32_w]
             rfl
            exact norm_ nm_ (hJ3_8 (gb193) _ ⟨hHeld, (kb BK183), (kb BK184), (kb BK185), (kb BK188), (kb BK193), GW193.out, GE193.out, NB183_193.out, NB193_183.out, NB184_193.out, NB193_184.out, NB185_193.out, NB193_185.out, NB188_193.out, NB193_188.out, (bl HB)⟩)
           ·skip
            refine box_step ?hg (N := 8) ?hd (cs := #[.int .u64 0, .int .u64 0]) (t := 47) ?hr ?_; (case hd => rfl); (case hg => rfl); (case hr => exact gs_)
            intro gb194 hg w25 hbox hb
            have BK194 := Aside0.mk (hbox)
            have GW194 := Aside0.mk ((by rw [hg]; exact (below_size (bl HB)) : w.heap.size ≤ gb194))
            have GE194 := Aside0.mk ((by rw [hg]; exact (below_size (bl HB)) : w.heap.size ≤ gb194))
            replace HB := Aside0.mk (below_step (bl HB) hb)
            have NB183_194 := Aside0.mk ((by rw [hg]; exact Nat.ne_of_lt (blk_lt (kb BK183)) : gb183 ≠ gb194))
            have NB194_183 := Aside0.mk ((by rw [hg]; exact Nat.ne_of_gt (blk_lt (kb BK183)) : gb194 ≠ gb183))
            replace BK183 := Aside0.mk (blk_below (kb BK183) hb)
            have NB184_194 := Aside0.mk ((by rw [hg]; exact Nat.ne_of_lt (blk_lt (kb BK184)) : gb184 ≠ gb194))
            have NB194_184 := Aside0.mk ((by rw [hg]; exact Nat.ne_of_gt (blk_lt (kb BK184)) : gb194 ≠ gb184))
            replace BK184 := Aside0.mk (blk_below (kb BK184) hb)
            have NB185_194 := Aside0.mk ((by rw [hg]; exact Nat.ne_of_lt (blk_lt (kb BK185)) : gb185 ≠ gb194))
            have NB194_185 := Aside0.mk ((by rw [hg]; exact Nat.ne_of_gt (blk_lt (kb BK185)) : gb194 ≠ gb185))
            replace BK185 := Aside0.mk (blk_below (kb BK185) hb)
            have NB188_194 := Aside0.mk ((by rw [hg]; exact Nat.ne_of_lt (blk_lt (kb BK188)) : gb188 ≠ gb194))
            have NB194_188 := Aside0.mk ((by rw [hg]; exact Nat.ne_of_gt (blk_lt (kb BK188)) : gb194 ≠ gb188))
            replace BK188 := Aside0.mk (blk_below (kb BK188) hb)
            have NB193_194 := Aside0.mk ((by rw [hg]; exact Nat.ne_of_lt (blk_lt (kb BK193)) : gb193 ≠ gb194))
            have NB194_193 := Aside0.mk ((by rw [hg]; exact Nat.ne_of_gt (blk_lt (kb BK193)) : gb194 ≠ gb193))
            replace BK193 := Aside0.mk (blk_below (kb BK193) hb)
            clear hb hbox hg
            refine hK.out _ _ ⟨ck BK183 0, ck BK183 1, ck BK183 2, ck BK188 0, ck BK188 1, ck BK184 0, ck BK184 1, ck BK184 2⟩ (fun hHeld => ?_)
            clear hK K
            refine norm_ (a' := ?_) ?_ ?_
            rotate_left
            ·show Act.put _ (some 8) _ = _
             simp only [Act.put, List.setIfInBounds_toArray, List.set_cons_zero, List.set_cons_succ, i64_w, i32_w]
             rfl
            exact norm_ nm_ (hJ8_9 (gb193, gb194) _ ⟨hHeld, (kb BK183), (kb BK184), (kb BK185), (kb BK188), (kb BK193), (kb BK194), GW193.out, GE193.out, NB183_193.out, NB193_183.out, NB184_193.out, NB193_184.out, NB185_193.out, NB193_185.out, NB188_193.out, NB193_188.out, NB194_193.out, NB193_194.out, GW194.out, GE194.out, NB183_194.out, NB194_183.out, NB184_194.out, NB194_184.out, NB185_194.out, NB194_185.out, NB188_194.out, NB194_188.out, (bl HB)⟩)
         ·skip
          rintro _ w24 ⟨hS_, h0_, h1_, h2_, h3_, h4_⟩
          have n0_ : Aside0 (w24.heap[gb183]? = some (.cells #[.bool a0_0, .int .u64 a0_1, .int .u64 a0_2] 49 (0, 0))) := ⟨h0_⟩
          have n1_ : Aside0 (w24.heap[gb184]? = some (.cells #[.bool a1_0, .int .u64 a1_1, .int .u64 a1_2] 49 (0, 0))) := ⟨h1_⟩
          have n2_ : Aside0 (w24.heap[gb185]? = some (.cells #[.int .i64 0, .int .i64 0] 24 (0, 0))) := ⟨h2_⟩
          have n3_ : Aside0 (w24.heap[gb188]? = some (.cells #[.int .u64 t186, .int .u64 t187] 47 (0, 0))) := ⟨h3_⟩
          have n4_ : Aside0 (Below w.heap.size w w24) := ⟨h4_⟩
          clear BK183
          clear BK184
          clear BK185
          clear BK188
          clear HB
          clear h0_ h1_ h2_ h3_ h4_
          have BK183 := n0_
          have BK184 := n1_
          have BK185 := n2_
          have BK188 := n3_
          have HB := n4_
          clear n0_ n1_ n2_ n3_ n4_
          have hHeld : w24.cell? ⟨gb183, 0, none⟩ = some (.bool a0_0) ∧ w24.cell? ⟨gb183, 1, none⟩ = some (.int .u64 a0_1) ∧ w24.cell? ⟨gb183, 2, none⟩ = some (.int .u64 a0_2) ∧ w24.cell? ⟨gb188, 0, none⟩ = some (.int .u64 t186) ∧ w24.cell? ⟨gb188, 1, none⟩ = some (.int .u64 t187) ∧ w24.cell? ⟨gb184, 0, none⟩ = some (.bool a1_0) ∧ w24.cell? ⟨gb184, 1, none⟩ = some (.int .u64 a1_1) ∧ w24.cell? ⟨gb184, 2, none⟩ = some (.int .u64 a1_2) := hS_
          refine norm_ (a' := ?_) ?_ ?_
          rotate_left
          ·simp only [putAll, Act.put, List.setIfInBounds_toArray, List.set_cons_zero, List.set_cons_succ]
           rfl
          refine three_ (i := 7) (j := 8) (k := 9) (Ni := some 25) (Nj := some 7) (Nk := some 8) #[true, true, true, true, true, true, true, true, false, false, false, false] #[true, true, true, true, true, true, true, false, true, false, false, false] #[true, true, true, true, true, true, true, false, false, true, false, false] rfl rfl rfl rfl rfl rfl (three_of HT_.out (by kernel_rfl)) (by decide) (by decide) (by decide) (fun K hK => ?_) (fun K hK => ?_) (fun K hK => ?_)
          ·skip
           refine goes_ Tryd.func44 (by kernel_rfl) rfl #[.agg #[.int .u64 a1_1, .int .u64 a1_2], .agg #[.int .u64 t186, .int .u64 t187]] (by rfl) rfl rfl gm_ ?_
           with_reducible refine (ratio_part.calls k a1_1 a1_2 t186 t187 t191 t192 _ A5.out).mono ?_
           rintro e w25 ⟨rfl, hb⟩
           refine ⟨_, rfl, ?_⟩
           replace BK183 := Aside0.mk (blk_below (kb BK183) hb)
           replace BK184 := Aside0.mk (blk_below (kb BK184) hb)
           replace BK185 := Aside0.mk (blk_below (kb BK185) hb)
           replace BK188 := Aside0.mk (blk_below (kb BK188) hb)
           replace HB := Aside0.mk (below_step (bl HB) hb)
           (try clear hb)
           (try clear hb2)
           (try clear hk)
           (try clear hi)
           refine hK.out _ _ ⟨ck BK183 0, ck BK183 1, ck BK183 2, ck BK188 0, ck BK188 1, ck BK184 0, ck BK184 1, ck BK184 2⟩ (fun hHeld => ?_)
           clear hK K
           refine norm_ (a' := ?_) ?_ ?_
           rotate_left
           ·show Act.put _ (some 25) _ = _
            simp only [Act.put, List.setIfInBounds_toArray, List.set_cons_zero, List.set_cons_succ, i64_w, i32_w]
            rfl
           exact norm_ nm_ (hJ3_7 () _ ⟨hHeld, (kb BK183), (kb BK184), (kb BK185), (kb BK188), (bl HB)⟩)
          ·skip
           refine box_step ?hg (N := 7) ?hd (cs := #[.int .u64 0, .int .u64 0]) (t := 47) ?hr ?_; (case hd => rfl); (case hg => rfl); (case hr => exact gs_)
           intro gb193 hg w25 hbox hb
           have BK193 := Aside0.mk (hbox)
           have GW193 := Aside0.mk ((by rw [hg]; exact (below_size (bl HB)) : w.heap.size ≤ gb193))
           have GE193 := Aside0.mk ((by rw [hg]; exact (below_size (bl HB)) : w.heap.size ≤ gb193))
           replace HB := Aside0.mk (below_step (bl HB) hb)
           have NB183_193 := Aside0.mk ((by rw [hg]; exact Nat.ne_of_lt (blk_lt (kb BK183)) : gb183 ≠ gb193))
           have NB193_183 := Aside0.mk ((by rw [hg]; exact Nat.ne_of_gt (blk_lt (kb BK183)) : gb193 ≠ gb183))
           replace BK183 := Aside0.mk (blk_below (kb BK183) hb)
           have NB184_193 := Aside0.mk ((by rw [hg]; exact Nat.ne_of_lt (blk_lt (kb BK184)) : gb184 ≠ gb193))
           have NB193_184 := Aside0.mk ((by rw [hg]; exact Nat.ne_of_gt (blk_lt (kb BK184)) : gb193 ≠ gb184))
           replace BK184 := Aside0.mk (blk_below (kb BK184) hb)
           have NB185_193 := Aside0.mk ((by rw [hg]; exact Nat.ne_of_lt (blk_lt (kb BK185)) : gb185 ≠ gb193))
           have NB193_185 := Aside0.mk ((by rw [hg]; exact Nat.ne_of_gt (blk_lt (kb BK185)) : gb193 ≠ gb185))
           replace BK185 := Aside0.mk (blk_below (kb BK185) hb)
           have NB188_193 := Aside0.mk ((by rw [hg]; exact Nat.ne_of_lt (blk_lt (kb BK188)) : gb188 ≠ gb193))
           have NB193_188 := Aside0.mk ((by rw [hg]; exact Nat.ne_of_gt (blk_lt (kb BK188)) : gb193 ≠ gb188))
           replace BK188 := Aside0.mk (blk_below (kb BK188) hb)
           clear hb hbox hg
           refine hK.out _ _ ⟨ck BK183 0, ck BK183 1, ck BK183 2, ck BK188 0, ck BK188 1, ck BK184 0, ck BK184 1, ck BK184 2⟩ (fun hHeld => ?_)
           clear hK K
           refine norm_ (a' := ?_) ?_ ?_
           rotate_left
           ·show Act.put _ (some 7) _ = _
            simp only [Act.put, List.setIfInBounds_toArray, List.set_cons_zero, List.set_cons_succ, i64_w, i32_w]
            rfl
           exact norm_ nm_ (hJ3_8 (gb193) _ ⟨hHeld, (kb BK183), (kb BK184), (kb BK185), (kb BK188), (kb BK193), GW193.out, GE193.out, NB183_193.out, NB193_183.out, NB184_193.out, NB193_184.out, NB185_193.out, NB193_185.out, NB188_193.out, NB193_188.out, (bl HB)⟩)
          ·skip
           refine box_step ?hg (N := 8) ?hd (cs := #[.int .u64 0, .int .u64 0]) (t := 47) ?hr ?_; (case hd => rfl); (case hg => rfl); (case hr => exact gs_)
           intro gb194 hg w25 hbox hb
           have BK194 := Aside0.mk (hbox)
           have GW194 := Aside0.mk ((by rw [hg]; exact (below_size (bl HB)) : w.heap.size ≤ gb194))
           have GE194 := Aside0.mk ((by rw [hg]; exact (below_size (bl HB)) : w.heap.size ≤ gb194))
           replace HB := Aside0.mk (below_step (bl HB) hb)
           have NB183_194 := Aside0.mk ((by rw [hg]; exact Nat.ne_of_lt (blk_lt (kb BK183)) : gb183 ≠ gb194))
           have NB194_183 := Aside0.mk ((by rw [hg]; exact Nat.ne_of_gt (blk_lt (kb BK183)) : gb194 ≠ gb183))
           replace BK183 := Aside0.mk (blk_below (kb BK183) hb)
           have NB184_194 := Aside0.mk ((by rw [hg]; exact Nat.ne_of_lt (blk_lt (kb BK184)) : gb184 ≠ gb194))
           have NB194_184 := Aside0.mk ((by rw [hg]; exact Nat.ne_of_gt (blk_lt (kb BK184)) : gb194 ≠ gb184))
           replace BK184 := Aside0.mk (blk_below (kb BK184) hb)
           have NB185_194 := Aside0.mk ((by rw [hg]; exact Nat.ne_of_lt (blk_lt (kb BK185)) : gb185 ≠ gb194))
           have NB194_185 := Aside0.mk ((by rw [hg]; exact Nat.ne_of_gt (blk_lt (kb BK185)) : gb194 ≠ gb185))
           replace BK185 := Aside0.mk (blk_below (kb BK185) hb)
           have NB188_194 := Aside0.mk ((by rw [hg]; exact Nat.ne_of_lt (blk_lt (kb BK188)) : gb188 ≠ gb194))
           have NB194_188 := Aside0.mk ((by rw [hg]; exact Nat.ne_of_gt (blk_lt (kb BK188)) : gb194 ≠ gb188))
           replace BK188 := Aside0.mk (blk_below (kb BK188) hb)
           clear hb hbox hg
           refine hK.out _ _ ⟨ck BK183 0, ck BK183 1, ck BK183 2, ck BK188 0, ck BK188 1, ck BK184 0, ck BK184 1, ck BK184 2⟩ (fun hHeld => ?_)
           clear hK K
           refine norm_ (a' := ?_) ?_ ?_
           rotate_left
           ·show Act.put _ (some 8) _ = _
            simp only [Act.put, List.setIfInBounds_toArray, List.set_cons_zero, List.set_cons_succ, i64_w, i32_w]
            rfl
           exact norm_ nm_ (hJ3_9 (gb194) _ ⟨hHeld, (kb BK183), (kb BK184), (kb BK185), (kb BK188), (kb BK194), GW194.out, GE194.out, NB183_194.out, NB194_183.out, NB184_194.out, NB194_184.out, NB185_194.out, NB194_185.out, NB188_194.out, NB194_188.out, (bl HB)⟩)
        ·skip
         rintro ⟨gb193, gb194⟩ w25 ⟨hS_, h0_, h1_, h2_, h3_, h4_, h5_, h6_, h7_, h8_, h9_, h10_, h11_, h12_, h13_, h14_, h15_, h16_, h17_, h18_, h19_, h20_, h21_, h22_, h23_, h24_, h25_, h26_, h27_, h28_⟩
         have n0_ : Aside0 (w25.heap[gb183]? = some (.cells #[.bool a0_0, .int .u64 a0_1, .int .u64 a0_2] 49 (0, 0))) := ⟨h0_⟩
         have n1_ : Aside0 (w25.heap[gb184]? = some (.cells #[.bool a1_0, .int .u64 a1_1, .int .u64 a1_2] 49 (0, 0))) := ⟨h1_⟩
         have n2_ : Aside0 (w25.heap[gb185]? = some (.cells #[.int .i64 0, .int .i64 0] 24 (0, 0))) := ⟨h2_⟩
         have n3_ : Aside0 (w25.heap[gb188]? = some (.cells #[.int .u64 t186, .int .u64 t187] 47 (0, 0))) := ⟨h3_⟩
         have n4_ : Aside0 (w25.heap[gb193]? = some (.cells #[.int .u64 0, .int .u64 0] 47 (0, 0))) := ⟨h4_⟩
         have n5_ : Aside0 (w25.heap[gb194]? = some (.cells #[.int .u64 0, .int .u64 0] 47 (0, 0))) := ⟨h5_⟩
         have n6_ : Aside0 (w.heap.size ≤ gb193) := ⟨h6_⟩
         have n7_ : Aside0 (w.heap.size ≤ gb193) := ⟨h7_⟩
         have n8_ : Aside0 (gb183 ≠ gb193) := ⟨h8_⟩
         have n9_ : Aside0 (gb193 ≠ gb183) := ⟨h9_⟩
         have n10_ : Aside0 (gb184 ≠ gb193) := ⟨h10_⟩
         have n11_ : Aside0 (gb193 ≠ gb184) := ⟨h11_⟩
         have n12_ : Aside0 (gb185 ≠ gb193) := ⟨h12_⟩
         have n13_ : Aside0 (gb193 ≠ gb185) := ⟨h13_⟩
         have n14_ : Aside0 (gb188 ≠ gb193) := ⟨h14_⟩
         have n15_ : Aside0 (gb193 ≠ gb188) := ⟨h15_⟩
         have n16_ : Aside0 (gb194 ≠ gb193) := ⟨h16_⟩
         have n17_ : Aside0 (gb193 ≠ gb194) := ⟨h17_⟩
         have n18_ : Aside0 (w.heap.size ≤ gb194) := ⟨h18_⟩
         have n19_ : Aside0 (w.heap.size ≤ gb194) := ⟨h19_⟩
         have n20_ : Aside0 (gb183 ≠ gb194) := ⟨h20_⟩
         have n21_ : Aside0 (gb194 ≠ gb183) := ⟨h21_⟩
         have n22_ : Aside0 (gb184 ≠ gb194) := ⟨h22_⟩
         have n23_ : Aside0 (gb194 ≠ gb184) := ⟨h23_⟩
         have n24_ : Aside0 (gb185 ≠ gb194) := ⟨h24_⟩
         have n25_ : Aside0 (gb194 ≠ gb185) := ⟨h25_⟩
         have n26_ : Aside0 (gb188 ≠ gb194) := ⟨h26_⟩
         have n27_ : Aside0 (gb194 ≠ gb188) := ⟨h27_⟩
         have n28_ : Aside0 (Below w.heap.size w w25) := ⟨h28_⟩
         clear BK183
         clear BK184
         clear BK185
         clear BK188
         clear HB
         clear h0_ h1_ h2_ h3_ h4_ h5_ h6_ h7_ h8_ h9_ h10_ h11_ h12_ h13_ h14_ h15_ h16_ h17_ h18_ h19_ h20_ h21_ h22_ h23_ h24_ h25_ h26_ h27_ h28_
         have BK183 := n0_
         have BK184 := n1_
         have BK185 := n2_
         have BK188 := n3_
         have BK193 := n4_
         have BK194 := n5_
         have GW193 := n6_
         have GE193 := n7_
         have NB183_193 := n8_
         have NB193_183 := n9_
         have NB184_193 := n10_
         have NB193_184 := n11_
         have NB185_193 := n12_
         have NB193_185 := n13_
         have NB188_193 := n14_
         have NB193_188 := n15_
         have NB194_193 := n16_
         have NB193_194 := n17_
         have GW194 := n18_
         have GE194 := n19_
         have NB183_194 := n20_
         have NB194_183 := n21_
         have NB184_194 := n22_
         have NB194_184 := n23_
         have NB185_194 := n24_
         have NB194_185 := n25_
         have NB188_194 := n26_
         have NB194_188 := n27_
         have HB := n28_
         clear n0_ n1_ n2_ n3_ n4_ n5_ n6_ n7_ n8_ n9_ n10_ n11_ n12_ n13_ n14_ n15_ n16_ n17_ n18_ n19_ n20_ n21_ n22_ n23_ n24_ n25_ n26_ n27_ n28_
         have hHeld : w25.cell? ⟨gb183, 0, none⟩ = some (.bool a0_0) ∧ w25.cell? ⟨gb183, 1, none⟩ = some (.int .u64 a0_1) ∧ w25.cell? ⟨gb183, 2, none⟩ = some (.int .u64 a0_2) ∧ w25.cell? ⟨gb188, 0, none⟩ = some (.int .u64 t186) ∧ w25.cell? ⟨gb188, 1, none⟩ = some (.int .u64 t187) ∧ w25.cell? ⟨gb184, 0, none⟩ = some (.bool a1_0) ∧ w25.cell? ⟨gb184, 1, none⟩ = some (.int .u64 a1_1) ∧ w25.cell? ⟨gb184, 2, none⟩ = some (.int .u64 a1_2) := hS_
         refine norm_ (a' := ?_) ?_ ?_
         rotate_left
         ·simp only [putAll, Act.put, List.setIfInBounds_toArray, List.set_cons_zero, List.set_cons_succ]
          rfl
         refine one_ (i := 3) (N := some 21) #[true, true, true, true, true, true, true, false, true, true, false, false] rfl rfl (one_of HT_.out (by kernel_rfl)) (by decide) (fun K hK => ?_)
         refine goes_ Tryd.func44 (by kernel_rfl) rfl #[.agg #[.int .u64 a0_1, .int .u64 a0_2], .agg #[.int .u64 t186, .int .u64 t187]] (by rfl) rfl rfl gm_ ?_
         with_reducible refine (ratio_part.calls k a0_1 a0_2 t186 t187 t189 t190 _ A4.out).mono ?_
         rintro e w26 ⟨rfl, hb⟩
         refine ⟨_, rfl, ?_⟩
         replace BK183 := Aside0.mk (blk_below (kb BK183) hb)
         replace BK184 := Aside0.mk (blk_below (kb BK184) hb)
         replace BK185 := Aside0.mk (blk_below (kb BK185) hb)
         replace BK188 := Aside0.mk (blk_below (kb BK188) hb)
         replace BK193 := Aside0.mk (blk_below (kb BK193) hb)
         replace BK194 := Aside0.mk (blk_below (kb BK194) hb)
         replace HB := Aside0.mk (below_step (bl HB) hb)
         (try clear hb)
         (try clear hb2)
         (try clear hk)
         (try clear hi)
         refine hK.out _ _ ⟨ck BK183 0, ck BK183 1, ck BK183 2, ck BK188 0, ck BK188 1, ck BK184 0, ck BK184 1, ck BK184 2⟩ (fun hHeld => ?_)
         clear hK K
         refine norm_ (a' := ?_) ?_ ?_
         rotate_left
         ·show Act.put _ (some 21) _ = _
          simp only [Act.put, List.setIfInBounds_toArray, List.set_cons_zero, List.set_cons_succ, i64_w, i32_w]
          rfl
         exact norm_ nm_ (hJ3_8_9 (gb193, gb194) _ ⟨hHeld, (kb BK183), (kb BK184), (kb BK185), (kb BK188), (kb BK193), (kb BK194), GW193.out, GE193.out, NB183_193.out, NB193_183.out, NB184_193.out, NB193_184.out, NB185_193.out, NB193_185.out, NB188_193.out, NB193_188.out, NB194_193.out, NB193_194.out, GW194.out, GE194.out, NB183_194.out, NB194_183.out, NB184_194.out, NB194_184.out, NB185_194.out, NB194_185.out, NB188_194.out, NB194_188.out, (bl HB)⟩)
       ·skip
        rintro gb194 w25 ⟨hS_, h0_, h1_, h2_, h3_, h4_, h5_, h6_, h7_, h8_, h9_, h10_, h11_, h12_, h13_, h14_, h15_⟩
        have n0_ : Aside0 (w25.heap[gb183]? = some (.cells #[.bool a0_0, .int .u64 a0_1, .int .u64 a0_2] 49 (0, 0))) := ⟨h0_⟩
        have n1_ : Aside0 (w25.heap[gb184]? = some (.cells #[.bool a1_0, .int .u64 a1_1, .int .u64 a1_2] 49 (0, 0))) := ⟨h1_⟩
        have n2_ : Aside0 (w25.heap[gb185]? = some (.cells #[.int .i64 0, .int .i64 0] 24 (0, 0))) := ⟨h2_⟩
        have n3_ : Aside0 (w25.heap[gb188]? = some (.cells #[.int .u64 t186, .int .u64 t187] 47 (0, 0))) := ⟨h3_⟩
        have n4_ : Aside0 (w25.heap[gb194]? = some (.cells #[.int .u64 0, .int .u64 0] 47 (0, 0))) := ⟨h4_⟩
        have n5_ : Aside0 (w.heap.size ≤ gb194) := ⟨h5_⟩
        have n6_ : Aside0 (w.heap.size ≤ gb194) := ⟨h6_⟩
        have n7_ : Aside0 (gb183 ≠ gb194) := ⟨h7_⟩
        have n8_ : Aside0 (gb194 ≠ gb183) := ⟨h8_⟩
        have n9_ : Aside0 (gb184 ≠ gb194) := ⟨h9_⟩
        have n10_ : Aside0 (gb194 ≠ gb184) := ⟨h10_⟩
        have n11_ : Aside0 (gb185 ≠ gb194) := ⟨h11_⟩
        have n12_ : Aside0 (gb194 ≠ gb185) := ⟨h12_⟩
        have n13_ : Aside0 (gb188 ≠ gb194) := ⟨h13_⟩
        have n14_ : Aside0 (gb194 ≠ gb188) := ⟨h14_⟩
        have n15_ : Aside0 (Below w.heap.size w w25) := ⟨h15_⟩
        clear BK183
        clear BK184
        clear BK185
        clear BK188
        clear HB
        clear h0_ h1_ h2_ h3_ h4_ h5_ h6_ h7_ h8_ h9_ h10_ h11_ h12_ h13_ h14_ h15_
        have BK183 := n0_
        have BK184 := n1_
        have BK185 := n2_
        have BK188 := n3_
        have BK194 := n4_
        have GW194 := n5_
        have GE194 := n6_
        have NB183_194 := n7_
        have NB194_183 := n8_
        have NB184_194 := n9_
        have NB194_184 := n10_
        have NB185_194 := n11_
        have NB194_185 := n12_
        have NB188_194 := n13_
        have NB194_188 := n14_
        have HB := n15_
        clear n0_ n1_ n2_ n3_ n4_ n5_ n6_ n7_ n8_ n9_ n10_ n11_ n12_ n13_ n14_ n15_
        have hHeld : w25.cell? ⟨gb183, 0, none⟩ = some (.bool a0_0) ∧ w25.cell? ⟨gb183, 1, none⟩ = some (.int .u64 a0_1) ∧ w25.cell? ⟨gb183, 2, none⟩ = some (.int .u64 a0_2) ∧ w25.cell? ⟨gb188, 0, none⟩ = some (.int .u64 t186) ∧ w25.cell? ⟨gb188, 1, none⟩ = some (.int .u64 t187) ∧ w25.cell? ⟨gb184, 0, none⟩ = some (.bool a1_0) ∧ w25.cell? ⟨gb184, 1, none⟩ = some (.int .u64 a1_1) ∧ w25.cell? ⟨gb184, 2, none⟩ = some (.int .u64 a1_2) := hS_
        refine norm_ (a' := ?_) ?_ ?_
        rotate_left
        ·simp only [putAll, Act.put, List.setIfInBounds_toArray, List.set_cons_zero, List.set_cons_succ]
         rfl
        refine two_ (i := 7) (j := 8) (Ni := some 25) (Nj := some 7) #[true, true, true, true, true, true, true, true, false, true, false, false] #[true, true, true, true, true, true, true, false, true, true, false, false] rfl rfl rfl rfl (two_of HT_.out (by kernel_rfl)) (by decide) (by decide) (fun K hK => ?_) (fun K hK => ?_)
        ·skip
         refine goes_ Tryd.func44 (by kernel_rfl) rfl #[.agg #[.int .u64 a1_1, .int .u64 a1_2], .agg #[.int .u64 t186, .int .u64 t187]] (by rfl) rfl rfl gm_ ?_
         with_reducible refine (ratio_part.calls k a1_1 a1_2 t186 t187 t191 t192 _ A5.out).mono ?_
         rintro e w26 ⟨rfl, hb⟩
         refine ⟨_, rfl, ?_⟩
         replace BK183 := Aside0.mk (blk_below (kb BK183) hb)
         replace BK184 := Aside0.mk (blk_below (kb BK184) hb)
         replace BK185 := Aside0.mk (blk_below (kb BK185) hb)
         replace BK188 := Aside0.mk (blk_below (kb BK188) hb)
         replace BK194 := Aside0.mk (blk_below (kb BK194) hb)
         replace HB := Aside0.mk (below_step (bl HB) hb)
         (try clear hb)
         (try clear hb2)
         (try clear hk)
         (try clear hi)
         refine hK.out _ _ ⟨ck BK183 0, ck BK183 1, ck BK183 2, ck BK188 0, ck BK188 1, ck BK184 0, ck BK184 1, ck BK184 2⟩ (fun hHeld => ?_)
         clear hK K
         refine norm_ (a' := ?_) ?_ ?_
         rotate_left
         ·show Act.put _ (some 25) _ = _
          simp only [Act.put, List.setIfInBounds_toArray, List.set_cons_zero, List.set_cons_succ, i64_w, i32_w]
          rfl
         exact norm_ nm_ (hJ3_7_9 (gb194) _ ⟨hHeld, (kb BK183), (kb BK184), (kb BK185), (kb BK188), (kb BK194), GW194.out, GE194.out, NB183_194.out, NB194_183.out, NB184_194.out, NB194_184.out, NB185_194.out, NB194_185.out, NB188_194.out, NB194_188.out, (bl HB)⟩)
        ·skip
         refine box_step ?hg (N := 7) ?hd (cs := #[.int .u64 0, .int .u64 0]) (t := 47) ?hr ?_; (case hd => rfl); (case hg => rfl); (case hr => exact gs_)
         intro gb193 hg w26 hbox hb
         have BK193 := Aside0.mk (hbox)
         have GW193 := Aside0.mk ((by rw [hg]; exact (below_size (bl HB)) : w.heap.size ≤ gb193))
         have GE193 := Aside0.mk ((by rw [hg]; exact (below_size (bl HB)) : w.heap.size ≤ gb193))
         replace HB := Aside0.mk (below_step (bl HB) hb)
         have NB183_193 := Aside0.mk ((by rw [hg]; exact Nat.ne_of_lt (blk_lt (kb BK183)) : gb183 ≠ gb193))
         have NB193_183 := Aside0.mk ((by rw [hg]; exact Nat.ne_of_gt (blk_lt (kb BK183)) : gb193 ≠ gb183))
         replace BK183 := Aside0.mk (blk_below (kb BK183) hb)
         have NB184_193 := Aside0.mk ((by rw [hg]; exact Nat.ne_of_lt (blk_lt (kb BK184)) : gb184 ≠ gb193))
         have NB193_184 := Aside0.mk ((by rw [hg]; exact Nat.ne_of_gt (blk_lt (kb BK184)) : gb193 ≠ gb184))
         replace BK184 := Aside0.mk (blk_below (kb BK184) hb)
         have NB185_193 := Aside0.mk ((by rw [hg]; exact Nat.ne_of_lt (blk_lt (kb BK185)) : gb185 ≠ gb193))
         have NB193_185 := Aside0.mk ((by rw [hg]; exact Nat.ne_of_gt (blk_lt (kb BK185)) : gb193 ≠ gb185))
         replace BK185 := Aside0.mk (blk_below (kb BK185) hb)
         have NB188_193 := Aside0.mk ((by rw [hg]; exact Nat.ne_of_lt (blk_lt (kb BK188)) : gb188 ≠ gb193))
         have NB193_188 := Aside0.mk ((by rw [hg]; exact Nat.ne_of_gt (blk_lt (kb BK188)) : gb193 ≠ gb188))
         replace BK188 := Aside0.mk (blk_below (kb BK188) hb)
         have NB194_193 := Aside0.mk ((by rw [hg]; exact Nat.ne_of_lt (blk_lt (kb BK194)) : gb194 ≠ gb193))
         have NB193_194 := Aside0.mk ((by rw [hg]; exact Nat.ne_of_gt (blk_lt (kb BK194)) : gb193 ≠ gb194))
         replace BK194 := Aside0.mk (blk_below (kb BK194) hb)
         clear hb hbox hg
         refine hK.out _ _ ⟨ck BK183 0, ck BK183 1, ck BK183 2, ck BK188 0, ck BK188 1, ck BK184 0, ck BK184 1, ck BK184 2⟩ (fun hHeld => ?_)
         clear hK K
         refine norm_ (a' := ?_) ?_ ?_
         rotate_left
         ·show Act.put _ (some 7) _ = _
          simp only [Act.put, List.setIfInBounds_toArray, List.set_cons_zero, List.set_cons_succ, i64_w, i32_w]
          rfl
         exact norm_ nm_ (hJ3_8_9 (gb193, gb194) _ ⟨hHeld, (kb BK183), (kb BK184), (kb BK185), (kb BK188), (kb BK193), (kb BK194), GW193.out, GE193.out, NB183_193.out, NB193_183.out, NB184_193.out, NB193_184.out, NB185_193.out, NB193_185.out, NB188_193.out, NB193_188.out, NB194_193.out, NB193_194.out, GW194.out, GE194.out, NB183_194.out, NB194_183.out, NB184_194.out, NB194_184.out, NB185_194.out, NB194_185.out, NB188_194.out, NB194_188.out, (bl HB)⟩)
      ·skip
       rintro gb193 w25 ⟨hS_, h0_, h1_, h2_, h3_, h4_, h5_, h6_, h7_, h8_, h9_, h10_, h11_, h12_, h13_, h14_, h15_⟩
       have n0_ : Aside0 (w25.heap[gb183]? = some (.cells #[.bool a0_0, .int .u64 a0_1, .int .u64 a0_2] 49 (0, 0))) := ⟨h0_⟩
       have n1_ : Aside0 (w25.heap[gb184]? = some (.cells #[.bool a1_0, .int .u64 a1_1, .int .u64 a1_2] 49 (0, 0))) := ⟨h1_⟩
       have n2_ : Aside0 (w25.heap[gb185]? = some (.cells #[.int .i64 0, .int .i64 0] 24 (0, 0))) := ⟨h2_⟩
       have n3_ : Aside0 (w25.heap[gb188]? = some (.cells #[.int .u64 t186, .int .u64 t187] 47 (0, 0))) := ⟨h3_⟩
       have n4_ : Aside0 (w25.heap[gb193]? = some (.cells #[.int .u64 0, .int .u64 0] 47 (0, 0))) := ⟨h4_⟩
       have n5_ : Aside0 (w.heap.size ≤ gb193) := ⟨h5_⟩
       have n6_ : Aside0 (w.heap.size ≤ gb193) := ⟨h6_⟩
       have n7_ : Aside0 (gb183 ≠ gb193) := ⟨h7_⟩
       have n8_ : Aside0 (gb193 ≠ gb183) := ⟨h8_⟩
       have n9_ : Aside0 (gb184 ≠ gb193) := ⟨h9_⟩
       have n10_ : Aside0 (gb193 ≠ gb184) := ⟨h10_⟩
       have n11_ : Aside0 (gb185 ≠ gb193) := ⟨h11_⟩
       have n12_ : Aside0 (gb193 ≠ gb185) := ⟨h12_⟩
       have n13_ : Aside0 (gb188 ≠ gb193) := ⟨h13_⟩
       have n14_ : Aside0 (gb193 ≠ gb188) := ⟨h14_⟩
       have n15_ : Aside0 (Below w.heap.size w w25) := ⟨h15_⟩
       clear BK183
       clear BK184
       clear BK185
       clear BK188
       clear HB
       clear h0_ h1_ h2_ h3_ h4_ h5_ h6_ h7_ h8_ h9_ h10_ h11_ h12_ h13_ h14_ h15_
       have BK183 := n0_
       have BK184 := n1_
       have BK185 := n2_
       have BK188 := n3_
       have BK193 := n4_
       have GW193 := n5_
       have GE193 := n6_
       have NB183_193 := n7_
       have NB193_183 := n8_
       have NB184_193 := n9_
       have NB193_184 := n10_
       have NB185_193 := n11_
       have NB193_185 := n12_
       have NB188_193 := n13_
       have NB193_188 := n14_
       have HB := n15_
       clear n0_ n1_ n2_ n3_ n4_ n5_ n6_ n7_ n8_ n9_ n10_ n11_ n12_ n13_ n14_ n15_
       have hHeld : w25.cell? ⟨gb183, 0, none⟩ = some (.bool a0_0) ∧ w25.cell? ⟨gb183, 1, none⟩ = some (.int .u64 a0_1) ∧ w25.cell? ⟨gb183, 2, none⟩ = some (.int .u64 a0_2) ∧ w25.cell? ⟨gb188, 0, none⟩ = some (.int .u64 t186) ∧ w25.cell? ⟨gb188, 1, none⟩ = some (.int .u64 t187) ∧ w25.cell? ⟨gb184, 0, none⟩ = some (.bool a1_0) ∧ w25.cell? ⟨gb184, 1, none⟩ = some (.int .u64 a1_1) ∧ w25.cell? ⟨gb184, 2, none⟩ = some (.int .u64 a1_2) := hS_
       refine norm_ (a' := ?_) ?_ ?_
       rotate_left
       ·simp only [putAll, Act.put, List.setIfInBounds_toArray, List.set_cons_zero, List.set_cons_succ]
        rfl
       refine two_ (i := 7) (j := 9) (Ni := some 25) (Nj := some 8) #[true, true, true, true, true, true, true, true, true, false, false, false] #[true, true, true, true, true, true, true, false, true, true, false, false] rfl rfl rfl rfl (two_of HT_.out (by kernel_rfl)) (by decide) (by decide) (fun K hK => ?_) (fun K hK => ?_)
       ·skip
        refine goes_ Tryd.func44 (by kernel_rfl) rfl #[.agg #[.int .u64 a1_1, .int .u64 a1_2], .agg #[.int .u64 t186, .int .u64 t187]] (by rfl) rfl rfl gm_ ?_
        with_reducible refine (ratio_part.calls k a1_1 a1_2 t186 t187 t191 t192 _ A5.out).mono ?_
        rintro e w26 ⟨rfl, hb⟩
        refine ⟨_, rfl, ?_⟩
        replace BK183 := Aside0.mk (blk_below (kb BK183) hb)
        replace BK184 := Aside0.mk (blk_below (kb BK184) hb)
        replace BK185 := Aside0.mk (blk_below (kb BK185) hb)
        replace BK188 := Aside0.mk (blk_below (kb BK188) hb)
        replace BK193 := Aside0.mk (blk_below (kb BK193) hb)
        replace HB := Aside0.mk (below_step (bl HB) hb)
        (try clear hb)
        (try clear hb2)
        (try clear hk)
        (try clear hi)
        refine hK.out _ _ ⟨ck BK183 0, ck BK183 1, ck BK183 2, ck BK188 0, ck BK188 1, ck BK184 0, ck BK184 1, ck BK184 2⟩ (fun hHeld => ?_)
        clear hK K
        refine norm_ (a' := ?_) ?_ ?_
        rotate_left
        ·show Act.put _ (some 25) _ = _
         simp only [Act.put, List.setIfInBounds_toArray, List.set_cons_zero, List.set_cons_succ, i64_w, i32_w]
         rfl
        exact norm_ nm_ (hJ3_7_8 (gb193) _ ⟨hHeld, (kb BK183), (kb BK184), (kb BK185), (kb BK188), (kb BK193), GW193.out, GE193.out, NB183_193.out, NB193_183.out, NB184_193.out, NB193_184.out, NB185_193.out, NB193_185.out, NB188_193.out, NB193_188.out, (bl HB)⟩)
       ·skip
        refine box_step ?hg (N := 8) ?hd (cs := #[.int .u64 0, .int .u64 0]) (t := 47) ?hr ?_; (case hd => rfl); (case hg => rfl); (case hr => exact gs_)
        intro gb194 hg w26 hbox hb
        have BK194 := Aside0.mk (hbox)
        have GW194 := Aside0.mk ((by rw [hg]; exact (below_size (bl HB)) : w.heap.size ≤ gb194))
        have GE194 := Aside0.mk ((by rw [hg]; exact (below_size (bl HB)) : w.heap.size ≤ gb194))
        replace HB := Aside0.mk (below_step (bl HB) hb)
        have NB183_194 := Aside0.mk ((by rw [hg]; exact Nat.ne_of_lt (blk_lt (kb BK183)) : gb183 ≠ gb194))
        have NB194_183 := Aside0.mk ((by rw [hg]; exact Nat.ne_of_gt (blk_lt (kb BK183)) : gb194 ≠ gb183))
        replace BK183 := Aside0.mk (blk_below (kb BK183) hb)
        have NB184_194 := Aside0.mk ((by rw [hg]; exact Nat.ne_of_lt (blk_lt (kb BK184)) : gb184 ≠ gb194))
        have NB194_184 := Aside0.mk ((by rw [hg]; exact Nat.ne_of_gt (blk_lt (kb BK184)) : gb194 ≠ gb184))
        replace BK184 := Aside0.mk (blk_below (kb BK184) hb)
        have NB185_194 := Aside0.mk ((by rw [hg]; exact Nat.ne_of_lt (blk_lt (kb BK185)) : gb185 ≠ gb194))
        have NB194_185 := Aside0.mk ((by rw [hg]; exact Nat.ne_of_gt (blk_lt (kb BK185)) : gb194 ≠ gb185))
        replace BK185 := Aside0.mk (blk_below (kb BK185) hb)
        have NB188_194 := Aside0.mk ((by rw [hg]; exact Nat.ne_of_lt (blk_lt (kb BK188)) : gb188 ≠ gb194))
        have NB194_188 := Aside0.mk ((by rw [hg]; exact Nat.ne_of_gt (blk_lt (kb BK188)) : gb194 ≠ gb188))
        replace BK188 := Aside0.mk (blk_below (kb BK188) hb)
        have NB193_194 := Aside0.mk ((by rw [hg]; exact Nat.ne_of_lt (blk_lt (kb BK193)) : gb193 ≠ gb194))
        have NB194_193 := Aside0.mk ((by rw [hg]; exact Nat.ne_of_gt (blk_lt (kb BK193)) : gb194 ≠ gb193))
        replace BK193 := Aside0.mk (blk_below (kb BK193) hb)
        clear hb hbox hg
        refine hK.out _ _ ⟨ck BK183 0, ck BK183 1, ck BK183 2, ck BK188 0, ck BK188 1, ck BK184 0, ck BK184 1, ck BK184 2⟩ (fun hHeld => ?_)
        clear hK K
        refine norm_ (a' := ?_) ?_ ?_
        rotate_left
        ·show Act.put _ (some 8) _ = _
         simp only [Act.put, List.setIfInBounds_toArray, List.set_cons_zero, List.set_cons_succ, i64_w, i32_w]
         rfl
        exact norm_ nm_ (hJ3_8_9 (gb193, gb194) _ ⟨hHeld, (kb BK183), (kb BK184), (kb BK185), (kb BK188), (kb BK193), (kb BK194), GW193.out, GE193.out, NB183_193.out, NB193_183.out, NB184_193.out, NB193_184.out, NB185_193.out, NB193_185.out, NB188_193.out, NB193_188.out, NB194_193.out, NB193_194.out, GW194.out, GE194.out, NB183_194.out, NB194_183.out, NB184_194.out, NB194_184.out, NB185_194.out, NB194_185.out, NB188_194.out, NB194_188.out, (bl HB)⟩)
     ·skip
      rintro _ w25 ⟨hS_, h0_, h1_, h2_, h3_, h4_⟩
      have n0_ : Aside0 (w25.heap[gb183]? = some (.cells #[.bool a0_0, .int .u64 a0_1, .int .u64 a0_2] 49 (0, 0))) := ⟨h0_⟩
      have n1_ : Aside0 (w25.heap[gb184]? = some (.cells #[.bool a1_0, .int .u64 a1_1, .int .u64 a1_2] 49 (0, 0))) := ⟨h1_⟩
      have n2_ : Aside0 (w25.heap[gb185]? = some (.cells #[.int .i64 0, .int .i64 0] 24 (0, 0))) := ⟨h2_⟩
      have n3_ : Aside0 (w25.heap[gb188]? = some (.cells #[.int .u64 t186, .int .u64 t187] 47 (0, 0))) := ⟨h3_⟩
      have n4_ : Aside0 (Below w.heap.size w w25) := ⟨h4_⟩
      clear BK183
      clear BK184
      clear BK185
      clear BK188
      clear HB
      clear h0_ h1_ h2_ h3_ h4_
      have BK183 := n0_
      have BK184 := n1_
      have BK185 := n2_
      have BK188 := n3_
      have HB := n4_
      clear n0_ n1_ n2_ n3_ n4_
      have hHeld : w25.cell? ⟨gb183, 0, none⟩ = some (.bool a0_0) ∧ w25.cell? ⟨gb183, 1, none⟩ = some (.int .u64 a0_1) ∧ w25.cell? ⟨gb183, 2, none⟩ = some (.int .u64 a0_2) ∧ w25.cell? ⟨gb188, 0, none⟩ = some (.int .u64 t186) ∧ w25.cell? ⟨gb188, 1, none⟩ = some (.int .u64 t187) ∧ w25.cell? ⟨gb184, 0, none⟩ = some (.bool a1_0) ∧ w25.cell? ⟨gb184, 1, none⟩ = some (.int .u64 a1_1) ∧ w25.cell? ⟨gb184, 2, none⟩ = some (.int .u64 a1_2) := hS_
      refine norm_ (a' := ?_) ?_ ?_
      rotate_left
      ·simp only [putAll, Act.put, List.setIfInBounds_toArray, List.set_cons_zero, List.set_cons_succ]
       rfl
      refine two_ (i := 8) (j := 9) (Ni := some 7) (Nj := some 8) #[true, true, true, true, true, true, true, true, true, false, false, false] #[true, true, true, true, true, true, true, true, false, true, false, false] rfl rfl rfl rfl (two_of HT_.out (by kernel_rfl)) (by decide) (by decide) (fun K hK => ?_) (fun K hK => ?_)
      ·skip
       refine box_step ?hg (N := 7) ?hd (cs := #[.int .u64 0, .int .u64 0]) (t := 47) ?hr ?_; (case hd => rfl); (case hg => rfl); (case hr => exact gs_)
       intro gb193 hg w26 hbox hb
       have BK193 := Aside0.mk (hbox)
       have GW193 := Aside0.mk ((by rw [hg]; exact (below_size (bl HB)) : w.heap.size ≤ gb193))
       have GE193 := Aside0.mk ((by rw [hg]; exact (below_size (bl HB)) : w.heap.size ≤ gb193))
       replace HB := Aside0.mk (below_step (bl HB) hb)
       have NB183_193 := Aside0.mk ((by rw [hg]; exact Nat.ne_of_lt (blk_lt (kb BK183)) : gb183 ≠ gb193))
       have NB193_183 := Aside0.mk ((by rw [hg]; exact Nat.ne_of_gt (blk_lt (kb BK183)) : gb193 ≠ gb183))
       replace BK183 := Aside0.mk (blk_below (kb BK183) hb)
       have NB184_193 := Aside0.mk ((by rw [hg]; exact Nat.ne_of_lt (blk_lt (kb BK184)) : gb184 ≠ gb193))
       have NB193_184 := Aside0.mk ((by rw [hg]; exact Nat.ne_of_gt (blk_lt (kb BK184)) : gb193 ≠ gb184))
       replace BK184 := Aside0.mk (blk_below (kb BK184) hb)
       have NB185_193 := Aside0.mk ((by rw [hg]; exact Nat.ne_of_lt (blk_lt (kb BK185)) : gb185 ≠ gb193))
       have NB193_185 := Aside0.mk ((by rw [hg]; exact Nat.ne_of_gt (blk_lt (kb BK185)) : gb193 ≠ gb185))
       replace BK185 := Aside0.mk (blk_below (kb BK185) hb)
       have NB188_193 := Aside0.mk ((by rw [hg]; exact Nat.ne_of_lt (blk_lt (kb BK188)) : gb188 ≠ gb193))
       have NB193_188 := Aside0.mk ((by rw [hg]; exact Nat.ne_of_gt (blk_lt (kb BK188)) : gb193 ≠ gb188))
       replace BK188 := Aside0.mk (blk_below (kb BK188) hb)
       clear hb hbox hg
       refine hK.out _ _ ⟨ck BK183 0, ck BK183 1, ck BK183 2, ck BK188 0, ck BK188 1, ck BK184 0, ck BK184 1, ck BK184 2⟩ (fun hHeld => ?_)
       clear hK K
       refine norm_ (a' := ?_) ?_ ?_
       rotate_left
       ·show Act.put _ (some 7) _ = _
        simp only [Act.put, List.setIfInBounds_toArray, List.set_cons_zero, List.set_cons_succ, i64_w, i32_w]
        rfl
       exact norm_ nm_ (hJ3_7_8 (gb193) _ ⟨hHeld, (kb BK183), (kb BK184), (kb BK185), (kb BK188), (kb BK193), GW193.out, GE193.out, NB183_193.out, NB193_183.out, NB184_193.out, NB193_184.out, NB185_193.out, NB193_185.out, NB188_193.out, NB193_188.out, (bl HB)⟩)
      ·skip
       refine box_step ?hg (N := 8) ?hd (cs := #[.int .u64 0, .int .u64 0]) (t := 47) ?hr ?_; (case hd => rfl); (case hg => rfl); (case hr => exact gs_)
       intro gb194 hg w26 hbox hb
       have BK194 := Aside0.mk (hbox)
       have GW194 := Aside0.mk ((by rw [hg]; exact (below_size (bl HB)) : w.heap.size ≤ gb194))
       have GE194 := Aside0.mk ((by rw [hg]; exact (below_size (bl HB)) : w.heap.size ≤ gb194))
       replace HB := Aside0.mk (below_step (bl HB) hb)
       have NB183_194 := Aside0.mk ((by rw [hg]; exact Nat.ne_of_lt (blk_lt (kb BK183)) : gb183 ≠ gb194))
       have NB194_183 := Aside0.mk ((by rw [hg]; exact Nat.ne_of_gt (blk_lt (kb BK183)) : gb194 ≠ gb183))
       replace BK183 := Aside0.mk (blk_below (kb BK183) hb)
       have NB184_194 := Aside0.mk ((by rw [hg]; exact Nat.ne_of_lt (blk_lt (kb BK184)) : gb184 ≠ gb194))
       have NB194_184 := Aside0.mk ((by rw [hg]; exact Nat.ne_of_gt (blk_lt (kb BK184)) : gb194 ≠ gb184))
       replace BK184 := Aside0.mk (blk_below (kb BK184) hb)
       have NB185_194 := Aside0.mk ((by rw [hg]; exact Nat.ne_of_lt (blk_lt (kb BK185)) : gb185 ≠ gb194))
       have NB194_185 := Aside0.mk ((by rw [hg]; exact Nat.ne_of_gt (blk_lt (kb BK185)) : gb194 ≠ gb185))
       replace BK185 := Aside0.mk (blk_below (kb BK185) hb)
       have NB188_194 := Aside0.mk ((by rw [hg]; exact Nat.ne_of_lt (blk_lt (kb BK188)) : gb188 ≠ gb194))
       have NB194_188 := Aside0.mk ((by rw [hg]; exact Nat.ne_of_gt (blk_lt (kb BK188)) : gb194 ≠ gb188))
       replace BK188 := Aside0.mk (blk_below (kb BK188) hb)
       clear hb hbox hg
       refine hK.out _ _ ⟨ck BK183 0, ck BK183 1, ck BK183 2, ck BK188 0, ck BK188 1, ck BK184 0, ck BK184 1, ck BK184 2⟩ (fun hHeld => ?_)
       clear hK K
       refine norm_ (a' := ?_) ?_ ?_
       rotate_left
       ·show Act.put _ (some 8) _ = _
        simp only [Act.put, List.setIfInBounds_toArray, List.set_cons_zero, List.set_cons_succ, i64_w, i32_w]
        rfl
       exact norm_ nm_ (hJ3_7_9 (gb194) _ ⟨hHeld, (kb BK183), (kb BK184), (kb BK185), (kb BK188), (kb BK194), GW194.out, GE194.out, NB183_194.out, NB194_183.out, NB184_194.out, NB194_184.out, NB185_194.out, NB194_185.out, NB188_194.out, NB194_188.out, (bl HB)⟩)
    ·skip
     rintro ⟨gb193, gb194⟩ w26 ⟨hS_, h0_, h1_, h2_, h3_, h4_, h5_, h6_, h7_, h8_, h9_, h10_, h11_, h12_, h13_, h14_, h15_, h16_, h17_, h18_, h19_, h20_, h21_, h22_, h23_, h24_, h25_, h26_, h27_, h28_⟩
     have n0_ : Aside0 (w26.heap[gb183]? = some (.cells #[.bool a0_0, .int .u64 a0_1, .int .u64 a0_2] 49 (0, 0))) := ⟨h0_⟩
     have n1_ : Aside0 (w26.heap[gb184]? = some (.cells #[.bool a1_0, .int .u64 a1_1, .int .u64 a1_2] 49 (0, 0))) := ⟨h1_⟩
     have n2_ : Aside0 (w26.heap[gb185]? = some (.cells #[.int .i64 0, .int .i64 0] 24 (0, 0))) := ⟨h2_⟩
     have n3_ : Aside0 (w26.heap[gb188]? = some (.cells #[.int .u64 t186, .int .u64 t187] 47 (0, 0))) := ⟨h3_⟩
     have n4_ : Aside0 (w26.heap[gb193]? = some (.cells #[.int .u64 0, .int .u64 0] 47 (0, 0))) := ⟨h4_⟩
     have n5_ : Aside0 (w26.heap[gb194]? = some (.cells #[.int .u64 0, .int .u64 0] 47 (0, 0))) := ⟨h5_⟩
     have n6_ : Aside0 (w.heap.size ≤ gb193) := ⟨h6_⟩
     have n7_ : Aside0 (w.heap.size ≤ gb193) := ⟨h7_⟩
     have n8_ : Aside0 (gb183 ≠ gb193) := ⟨h8_⟩
     have n9_ : Aside0 (gb193 ≠ gb183) := ⟨h9_⟩
     have n10_ : Aside0 (gb184 ≠ gb193) := ⟨h10_⟩
     have n11_ : Aside0 (gb193 ≠ gb184) := ⟨h11_⟩
     have n12_ : Aside0 (gb185 ≠ gb193) := ⟨h12_⟩
     have n13_ : Aside0 (gb193 ≠ gb185) := ⟨h13_⟩
     have n14_ : Aside0 (gb188 ≠ gb193) := ⟨h14_⟩
     have n15_ : Aside0 (gb193 ≠ gb188) := ⟨h15_⟩
     have n16_ : Aside0 (gb194 ≠ gb193) := ⟨h16_⟩
     have n17_ : Aside0 (gb193 ≠ gb194) := ⟨h17_⟩
     have n18_ : Aside0 (w.heap.size ≤ gb194) := ⟨h18_⟩
     have n19_ : Aside0 (w.heap.size ≤ gb194) := ⟨h19_⟩
     have n20_ : Aside0 (gb183 ≠ gb194) := ⟨h20_⟩
     have n21_ : Aside0 (gb194 ≠ gb183) := ⟨h21_⟩
     have n22_ : Aside0 (gb184 ≠ gb194) := ⟨h22_⟩
     have n23_ : Aside0 (gb194 ≠ gb184) := ⟨h23_⟩
     have n24_ : Aside0 (gb185 ≠ gb194) := ⟨h24_⟩
     have n25_ : Aside0 (gb194 ≠ gb185) := ⟨h25_⟩
     have n26_ : Aside0 (gb188 ≠ gb194) := ⟨h26_⟩
     have n27_ : Aside0 (gb194 ≠ gb188) := ⟨h27_⟩
     have n28_ : Aside0 (Below w.heap.size w w26) := ⟨h28_⟩
     clear BK183
     clear BK184
     clear BK185
     clear BK188
     clear HB
     clear h0_ h1_ h2_ h3_ h4_ h5_ h6_ h7_ h8_ h9_ h10_ h11_ h12_ h13_ h14_ h15_ h16_ h17_ h18_ h19_ h20_ h21_ h22_ h23_ h24_ h25_ h26_ h27_ h28_
     have BK183 := n0_
     have BK184 := n1_
     have BK185 := n2_
     have BK188 := n3_
     have BK193 := n4_
     have BK194 := n5_
     have GW193 := n6_
     have GE193 := n7_
     have NB183_193 := n8_
     have NB193_183 := n9_
     have NB184_193 := n10_
     have NB193_184 := n11_
     have NB185_193 := n12_
     have NB193_185 := n13_
     have NB188_193 := n14_
     have NB193_188 := n15_
     have NB194_193 := n16_
     have NB193_194 := n17_
     have GW194 := n18_
     have GE194 := n19_
     have NB183_194 := n20_
     have NB194_183 := n21_
     have NB184_194 := n22_
     have NB194_184 := n23_
     have NB185_194 := n24_
     have NB194_185 := n25_
     have NB188_194 := n26_
     have NB194_188 := n27_
     have HB := n28_
     clear n0_ n1_ n2_ n3_ n4_ n5_ n6_ n7_ n8_ n9_ n10_ n11_ n12_ n13_ n14_ n15_ n16_ n17_ n18_ n19_ n20_ n21_ n22_ n23_ n24_ n25_ n26_ n27_ n28_
     have hHeld : w26.cell? ⟨gb183, 0, none⟩ = some (.bool a0_0) ∧ w26.cell? ⟨gb183, 1, none⟩ = some (.int .u64 a0_1) ∧ w26.cell? ⟨gb183, 2, none⟩ = some (.int .u64 a0_2) ∧ w26.cell? ⟨gb188, 0, none⟩ = some (.int .u64 t186) ∧ w26.cell? ⟨gb188, 1, none⟩ = some (.int .u64 t187) ∧ w26.cell? ⟨gb184, 0, none⟩ = some (.bool a1_0) ∧ w26.cell? ⟨gb184, 1, none⟩ = some (.int .u64 a1_1) ∧ w26.cell? ⟨gb184, 2, none⟩ = some (.int .u64 a1_2) := hS_
     refine norm_ (a' := ?_) ?_ ?_
     rotate_left
     ·simp only [putAll, Act.put, List.setIfInBounds_toArray, List.set_cons_zero, List.set_cons_succ]
      rfl
     refine one_ (i := 7) (N := some 25) #[true, true, true, true, true, true, true, true, true, true, false, false] rfl rfl (one_of HT_.out (by kernel_rfl)) (by decide) (fun K hK => ?_)
     refine goes_ Tryd.func44 (by kernel_rfl) rfl #[.agg #[.int .u64 a1_1, .int .u64 a1_2], .agg #[.int .u64 t186, .int .u64 t187]] (by rfl) rfl rfl gm_ ?_
     with_reducible refine (ratio_part.calls k a1_1 a1_2 t186 t187 t191 t192 _ A5.out).mono ?_
     rintro e w27 ⟨rfl, hb⟩
     refine ⟨_, rfl, ?_⟩
     replace BK183 := Aside0.mk (blk_below (kb BK183) hb)
     replace BK184 := Aside0.mk (blk_below (kb BK184) hb)
     replace BK185 := Aside0.mk (blk_below (kb BK185) hb)
     replace BK188 := Aside0.mk (blk_below (kb BK188) hb)
     replace BK193 := Aside0.mk (blk_below (kb BK193) hb)
     replace BK194 := Aside0.mk (blk_below (kb BK194) hb)
     replace HB := Aside0.mk (below_step (bl HB) hb)
     (try clear hb)
     (try clear hb2)
     (try clear hk)
     (try clear hi)
     refine hK.out _ _ ⟨ck BK183 0, ck BK183 1, ck BK183 2, ck BK188 0, ck BK188 1, ck BK184 0, ck BK184 1, ck BK184 2⟩ (fun hHeld => ?_)
     clear hK K
     refine norm_ (a' := ?_) ?_ ?_
     rotate_left
     ·show Act.put _ (some 25) _ = _
      simp only [Act.put, List.setIfInBounds_toArray, List.set_cons_zero, List.set_cons_succ, i64_w, i32_w]
      rfl
     exact norm_ nm_ (hJ3_7_8_9 (gb193, gb194) _ ⟨hHeld, (kb BK183), (kb BK184), (kb BK185), (kb BK188), (kb BK193), (kb BK194), GW193.out, GE193.out, NB183_193.out, NB193_183.out, NB184_193.out, NB193_184.out, NB185_193.out, NB193_185.out, NB188_193.out, NB193_188.out, NB194_193.out, NB193_194.out, GW194.out, GE194.out, NB183_194.out, NB194_183.out, NB184_194.out, NB194_184.out, NB185_194.out, NB194_185.out, NB188_194.out, NB194_188.out, (bl HB)⟩)
   ·skip
    rintro gb194 w26 ⟨hS_, h0_, h1_, h2_, h3_, h4_, h5_, h6_, h7_, h8_, h9_, h10_, h11_, h12_, h13_, h14_, h15_⟩
    have n0_ : Aside0 (w26.heap[gb183]? = some (.cells #[.bool a0_0, .int .u64 a0_1, .int .u64 a0_2] 49 (0, 0))) := ⟨h0_⟩
    have n1_ : Aside0 (w26.heap[gb184]? = some (.cells #[.bool a1_0, .int .u64 a1_1, .int .u64 a1_2] 49 (0, 0))) := ⟨h1_⟩
    have n2_ : Aside0 (w26.heap[gb185]? = some (.cells #[.int .i64 0, .int .i64 0] 24 (0, 0))) := ⟨h2_⟩
    have n3_ : Aside0 (w26.heap[gb188]? = some (.cells #[.int .u64 t186, .int .u64 t187] 47 (0, 0))) := ⟨h3_⟩
    have n4_ : Aside0 (w26.heap[gb194]? = some (.cells #[.int .u64 0, .int .u64 0] 47 (0, 0))) := ⟨h4_⟩
    have n5_ : Aside0 (w.heap.size ≤ gb194) := ⟨h5_⟩
    have n6_ : Aside0 (w.heap.size ≤ gb194) := ⟨h6_⟩
    have n7_ : Aside0 (gb183 ≠ gb194) := ⟨h7_⟩
    have n8_ : Aside0 (gb194 ≠ gb183) := ⟨h8_⟩
    have n9_ : Aside0 (gb184 ≠ gb194) := ⟨h9_⟩
    have n10_ : Aside0 (gb194 ≠ gb184) := ⟨h10_⟩
    have n11_ : Aside0 (gb185 ≠ gb194) := ⟨h11_⟩
    have n12_ : Aside0 (gb194 ≠ gb185) := ⟨h12_⟩
    have n13_ : Aside0 (gb188 ≠ gb194) := ⟨h13_⟩
    have n14_ : Aside0 (gb194 ≠ gb188) := ⟨h14_⟩
    have n15_ : Aside0 (Below w.heap.size w w26) := ⟨h15_⟩
    clear BK183
    clear BK184
    clear BK185
    clear BK188
    clear HB
    clear h0_ h1_ h2_ h3_ h4_ h5_ h6_ h7_ h8_ h9_ h10_ h11_ h12_ h13_ h14_ h15_
    have BK183 := n0_
    have BK184 := n1_
    have BK185 := n2_
    have BK188 := n3_
    have BK194 := n4_
    have GW194 := n5_
    have GE194 := n6_
    have NB183_194 := n7_
    have NB194_183 := n8_
    have NB184_194 := n9_
    have NB194_184 := n10_
    have NB185_194 := n11_
    have NB194_185 := n12_
    have NB188_194 := n13_
    have NB194_188 := n14_
    have HB := n15_
    clear n0_ n1_ n2_ n3_ n4_ n5_ n6_ n7_ n8_ n9_ n10_ n11_ n12_ n13_ n14_ n15_
    have hHeld : w26.cell? ⟨gb183, 0, none⟩ = some (.bool a0_0) ∧ w26.cell? ⟨gb183, 1, none⟩ = some (.int .u64 a0_1) ∧ w26.cell? ⟨gb183, 2, none⟩ = some (.int .u64 a0_2) ∧ w26.cell? ⟨gb188, 0, none⟩ = some (.int .u64 t186) ∧ w26.cell? ⟨gb188, 1, none⟩ = some (.int .u64 t187) ∧ w26.cell? ⟨gb184, 0, none⟩ = some (.bool a1_0) ∧ w26.cell? ⟨gb184, 1, none⟩ = some (.int .u64 a1_1) ∧ w26.cell? ⟨gb184, 2, none⟩ = some (.int .u64 a1_2) := hS_
    refine norm_ (a' := ?_) ?_ ?_
    rotate_left
    ·simp only [putAll, Act.put, List.setIfInBounds_toArray, List.set_cons_zero, List.set_cons_succ]
     rfl
    refine one_ (i := 8) (N := some 7) #[true, true, true, true, true, true, true, true, true, true, false, false] rfl rfl (one_of HT_.out (by kernel_rfl)) (by decide) (fun K hK => ?_)
    refine box_step ?hg (N := 7) ?hd (cs := #[.int .u64 0, .int .u64 0]) (t := 47) ?hr ?_; (case hd => rfl); (case hg => rfl); (case hr => exact gs_)
    intro gb193 hg w27 hbox hb
    have BK193 := Aside0.mk (hbox)
    have GW193 := Aside0.mk ((by rw [hg]; exact (below_size (bl HB)) : w.heap.size ≤ gb193))
    have GE193 := Aside0.mk ((by rw [hg]; exact (below_size (bl HB)) : w.heap.size ≤ gb193))
    replace HB := Aside0.mk (below_step (bl HB) hb)
    have NB183_193 := Aside0.mk ((by rw [hg]; exact Nat.ne_of_lt (blk_lt (kb BK183)) : gb183 ≠ gb193))
    have NB193_183 := Aside0.mk ((by rw [hg]; exact Nat.ne_of_gt (blk_lt (kb BK183)) : gb193 ≠ gb183))
    replace BK183 := Aside0.mk (blk_below (kb BK183) hb)
    have NB184_193 := Aside0.mk ((by rw [hg]; exact Nat.ne_of_lt (blk_lt (kb BK184)) : gb184 ≠ gb193))
    have NB193_184 := Aside0.mk ((by rw [hg]; exact Nat.ne_of_gt (blk_lt (kb BK184)) : gb193 ≠ gb184))
    replace BK184 := Aside0.mk (blk_below (kb BK184) hb)
    have NB185_193 := Aside0.mk ((by rw [hg]; exact Nat.ne_of_lt (blk_lt (kb BK185)) : gb185 ≠ gb193))
    have NB193_185 := Aside0.mk ((by rw [hg]; exact Nat.ne_of_gt (blk_lt (kb BK185)) : gb193 ≠ gb185))
    replace BK185 := Aside0.mk (blk_below (kb BK185) hb)
    have NB188_193 := Aside0.mk ((by rw [hg]; exact Nat.ne_of_lt (blk_lt (kb BK188)) : gb188 ≠ gb193))
    have NB193_188 := Aside0.mk ((by rw [hg]; exact Nat.ne_of_gt (blk_lt (kb BK188)) : gb193 ≠ gb188))
    replace BK188 := Aside0.mk (blk_below (kb BK188) hb)
    have NB194_193 := Aside0.mk ((by rw [hg]; exact Nat.ne_of_lt (blk_lt (kb BK194)) : gb194 ≠ gb193))
    have NB193_194 := Aside0.mk ((by rw [hg]; exact Nat.ne_of_gt (blk_lt (kb BK194)) : gb193 ≠ gb194))
    replace BK194 := Aside0.mk (blk_below (kb BK194) hb)
    clear hb hbox hg
    refine hK.out _ _ ⟨ck BK183 0, ck BK183 1, ck BK183 2, ck BK188 0, ck BK188 1, ck BK184 0, ck BK184 1, ck BK184 2⟩ (fun hHeld => ?_)
    clear hK K
    refine norm_ (a' := ?_) ?_ ?_
    rotate_left
    ·show Act.put _ (some 7) _ = _
     simp only [Act.put, List.setIfInBounds_toArray, List.set_cons_zero, List.set_cons_succ, i64_w, i32_w]
     rfl
    exact norm_ nm_ (hJ3_7_8_9 (gb193, gb194) _ ⟨hHeld, (kb BK183), (kb BK184), (kb BK185), (kb BK188), (kb BK193), (kb BK194), GW193.out, GE193.out, NB183_193.out, NB193_183.out, NB184_193.out, NB193_184.out, NB185_193.out, NB193_185.out, NB188_193.out, NB193_188.out, NB194_193.out, NB193_194.out, GW194.out, GE194.out, NB183_194.out, NB194_183.out, NB184_194.out, NB194_184.out, NB185_194.out, NB194_185.out, NB188_194.out, NB194_188.out, (bl HB)⟩)
  ·skip
   rintro gb193 w26 ⟨hS_, h0_, h1_, h2_, h3_, h4_, h5_, h6_, h7_, h8_, h9_, h10_, h11_, h12_, h13_, h14_, h15_⟩
   have n0_ : Aside0 (w26.heap[gb183]? = some (.cells #[.bool a0_0, .int .u64 a0_1, .int .u64 a0_2] 49 (0, 0))) := ⟨h0_⟩
   have n1_ : Aside0 (w26.heap[gb184]? = some (.cells #[.bool a1_0, .int .u64 a1_1, .int .u64 a1_2] 49 (0, 0))) := ⟨h1_⟩
   have n2_ : Aside0 (w26.heap[gb185]? = some (.cells #[.int .i64 0, .int .i64 0] 24 (0, 0))) := ⟨h2_⟩
   have n3_ : Aside0 (w26.heap[gb188]? = some (.cells #[.int .u64 t186, .int .u64 t187] 47 (0, 0))) := ⟨h3_⟩
   have n4_ : Aside0 (w26.heap[gb193]? = some (.cells #[.int .u64 0, .int .u64 0] 47 (0, 0))) := ⟨h4_⟩
   have n5_ : Aside0 (w.heap.size ≤ gb193) := ⟨h5_⟩
   have n6_ : Aside0 (w.heap.size ≤ gb193) := ⟨h6_⟩
   have n7_ : Aside0 (gb183 ≠ gb193) := ⟨h7_⟩
   have n8_ : Aside0 (gb193 ≠ gb183) := ⟨h8_⟩
   have n9_ : Aside0 (gb184 ≠ gb193) := ⟨h9_⟩
   have n10_ : Aside0 (gb193 ≠ gb184) := ⟨h10_⟩
   have n11_ : Aside0 (gb185 ≠ gb193) := ⟨h11_⟩
   have n12_ : Aside0 (gb193 ≠ gb185) := ⟨h12_⟩
   have n13_ : Aside0 (gb188 ≠ gb193) := ⟨h13_⟩
   have n14_ : Aside0 (gb193 ≠ gb188) := ⟨h14_⟩
   have n15_ : Aside0 (Below w.heap.size w w26) := ⟨h15_⟩
   clear BK183
   clear BK184
   clear BK185
   clear BK188
   clear HB
   clear h0_ h1_ h2_ h3_ h4_ h5_ h6_ h7_ h8_ h9_ h10_ h11_ h12_ h13_ h14_ h15_
   have BK183 := n0_
   have BK184 := n1_
   have BK185 := n2_
   have BK188 := n3_
   have BK193 := n4_
   have GW193 := n5_
   have GE193 := n6_
   have NB183_193 := n7_
   have NB193_183 := n8_
   have NB184_193 := n9_
   have NB193_184 := n10_
   have NB185_193 := n11_
   have NB193_185 := n12_
   have NB188_193 := n13_
   have NB193_188 := n14_
   have HB := n15_
   clear n0_ n1_ n2_ n3_ n4_ n5_ n6_ n7_ n8_ n9_ n10_ n11_ n12_ n13_ n14_ n15_
   have hHeld : w26.cell? ⟨gb183, 0, none⟩ = some (.bool a0_0) ∧ w26.cell? ⟨gb183, 1, none⟩ = some (.int .u64 a0_1) ∧ w26.cell? ⟨gb183, 2, none⟩ = some (.int .u64 a0_2) ∧ w26.cell? ⟨gb188, 0, none⟩ = some (.int .u64 t186) ∧ w26.cell? ⟨gb188, 1, none⟩ = some (.int .u64 t187) ∧ w26.cell? ⟨gb184, 0, none⟩ = some (.bool a1_0) ∧ w26.cell? ⟨gb184, 1, none⟩ = some (.int .u64 a1_1) ∧ w26.cell? ⟨gb184, 2, none⟩ = some (.int .u64 a1_2) := hS_
   refine norm_ (a' := ?_) ?_ ?_
   rotate_left
   ·simp only [putAll, Act.put, List.setIfInBounds_toArray, List.set_cons_zero, List.set_cons_succ]
    rfl
   refine one_ (i := 9) (N := some 8) #[true, true, true, true, true, true, true, true, true, true, false, false] rfl rfl (one_of HT_.out (by kernel_rfl)) (by decide) (fun K hK => ?_)
   refine box_step ?hg (N := 8) ?hd (cs := #[.int .u64 0, .int .u64 0]) (t := 47) ?hr ?_; (case hd => rfl); (case hg => rfl); (case hr => exact gs_)
   intro gb194 hg w27 hbox hb
   have BK194 := Aside0.mk (hbox)
   have GW194 := Aside0.mk ((by rw [hg]; exact (below_size (bl HB)) : w.heap.size ≤ gb194))
   have GE194 := Aside0.mk ((by rw [hg]; exact (below_size (bl HB)) : w.heap.size ≤ gb194))
   replace HB := Aside0.mk (below_step (bl HB) hb)
   have NB183_194 := Aside0.mk ((by rw [hg]; exact Nat.ne_of_lt (blk_lt (kb BK183)) : gb183 ≠ gb194))
   have NB194_183 := Aside0.mk ((by rw [hg]; exact Nat.ne_of_gt (blk_lt (kb BK183)) : gb194 ≠ gb183))
   replace BK183 := Aside0.mk (blk_below (kb BK183) hb)
   have NB184_194 := Aside0.mk ((by rw [hg]; exact Nat.ne_of_lt (blk_lt (kb BK184)) : gb184 ≠ gb194))
   have NB194_184 := Aside0.mk ((by rw [hg]; exact Nat.ne_of_gt (blk_lt (kb BK184)) : gb194 ≠ gb184))
   replace BK184 := Aside0.mk (blk_below (kb BK184) hb)
   have NB185_194 := Aside0.mk ((by rw [hg]; exact Nat.ne_of_lt (blk_lt (kb BK185)) : gb185 ≠ gb194))
   have NB194_185 := Aside0.mk ((by rw [hg]; exact Nat.ne_of_gt (blk_lt (kb BK185)) : gb194 ≠ gb185))
   replace BK185 := Aside0.mk (blk_below (kb BK185) hb)
   have NB188_194 := Aside0.mk ((by rw [hg]; exact Nat.ne_of_lt (blk_lt (kb BK188)) : gb188 ≠ gb194))
   have NB194_188 := Aside0.mk ((by rw [hg]; exact Nat.ne_of_gt (blk_lt (kb BK188)) : gb194 ≠ gb188))
   replace BK188 := Aside0.mk (blk_below (kb BK188) hb)
   have NB193_194 := Aside0.mk ((by rw [hg]; exact Nat.ne_of_lt (blk_lt (kb BK193)) : gb193 ≠ gb194))
   have NB194_193 := Aside0.mk ((by rw [hg]; exact Nat.ne_of_gt (blk_lt (kb BK193)) : gb194 ≠ gb193))
   replace BK193 := Aside0.mk (blk_below (kb BK193) hb)
   clear hb hbox hg
   refine hK.out _ _ ⟨ck BK183 0, ck BK183 1, ck BK183 2, ck BK188 0, ck BK188 1, ck BK184 0, ck BK184 1, ck BK184 2⟩ (fun hHeld => ?_)
   clear hK K
   refine norm_ (a' := ?_) ?_ ?_
   rotate_left
   ·show Act.put _ (some 8) _ = _
    simp only [Act.put, List.setIfInBounds_toArray, List.set_cons_zero, List.set_cons_succ, i64_w, i32_w]
    rfl
   exact norm_ nm_ (hJ3_7_8_9 (gb193, gb194) _ ⟨hHeld, (kb BK183), (kb BK184), (kb BK185), (kb BK188), (kb BK193), (kb BK194), GW193.out, GE193.out, NB183_193.out, NB193_183.out, NB184_193.out, NB193_184.out, NB185_193.out, NB193_185.out, NB188_193.out, NB193_188.out, NB194_193.out, NB193_194.out, GW194.out, GE194.out, NB183_194.out, NB194_183.out, NB184_194.out, NB194_184.out, NB185_194.out, NB194_185.out, NB188_194.out, NB194_188.out, (bl HB)⟩)
 rintro ⟨gb193, gb194⟩ w27 ⟨hS_, h0_, h1_, h2_, h3_, h4_, h5_, h6_, h7_, h8_, h9_, h10_, h11_, h12_, h13_, h14_, h15_, h16_, h17_, h18_, h19_, h20_, h21_, h22_, h23_, h24_, h25_, h26_, h27_, h28_⟩
 have n0_ : Aside0 (w27.heap[gb183]? = some (.cells #[.bool a0_0, .int .u64 a0_1, .int .u64 a0_2] 49 (0, 0))) := ⟨h0_⟩
 have n1_ : Aside0 (w27.heap[gb184]? = some (.cells #[.bool a1_0, .int .u64 a1_1, .int .u64 a1_2] 49 (0, 0))) := ⟨h1_⟩
 have n2_ : Aside0 (w27.heap[gb185]? = some (.cells #[.int .i64 0, .int .i64 0] 24 (0, 0))) := ⟨h2_⟩
 have n3_ : Aside0 (w27.heap[gb188]? = some (.cells #[.int .u64 t186, .int .u64 t187] 47 (0, 0))) := ⟨h3_⟩
 have n4_ : Aside0 (w27.heap[gb193]? = some (.cells #[.int .u64 0, .int .u64 0] 47 (0, 0))) := ⟨h4_⟩
 have n5_ : Aside0 (w27.heap[gb194]? = some (.cells #[.int .u64 0, .int .u64 0] 47 (0, 0))) := ⟨h5_⟩
 have n6_ : Aside0 (w.heap.size ≤ gb193) := ⟨h6_⟩
 have n7_ : Aside0 (w.heap.size ≤ gb193) := ⟨h7_⟩
 have n8_ : Aside0 (gb183 ≠ gb193) := ⟨h8_⟩
 have n9_ : Aside0 (gb193 ≠ gb183) := ⟨h9_⟩
 have n10_ : Aside0 (gb184 ≠ gb193) := ⟨h10_⟩
 have n11_ : Aside0 (gb193 ≠ gb184) := ⟨h11_⟩
 have n12_ : Aside0 (gb185 ≠ gb193) := ⟨h12_⟩
 have n13_ : Aside0 (gb193 ≠ gb185) := ⟨h13_⟩
 have n14_ : Aside0 (gb188 ≠ gb193) := ⟨h14_⟩
 have n15_ : Aside0 (gb193 ≠ gb188) := ⟨h15_⟩
 have n16_ : Aside0 (gb194 ≠ gb193) := ⟨h16_⟩
 have n17_ : Aside0 (gb193 ≠ gb194) := ⟨h17_⟩
 have n18_ : Aside0 (w.heap.size ≤ gb194) := ⟨h18_⟩
 have n19_ : Aside0 (w.heap.size ≤ gb194) := ⟨h19_⟩
 have n20_ : Aside0 (gb183 ≠ gb194) := ⟨h20_⟩
 have n21_ : Aside0 (gb194 ≠ gb183) := ⟨h21_⟩
 have n22_ : Aside0 (gb184 ≠ gb194) := ⟨h22_⟩
 have n23_ : Aside0 (gb194 ≠ gb184) := ⟨h23_⟩
 have n24_ : Aside0 (gb185 ≠ gb194) := ⟨h24_⟩
 have n25_ : Aside0 (gb194 ≠ gb185) := ⟨h25_⟩
 have n26_ : Aside0 (gb188 ≠ gb194) := ⟨h26_⟩
 have n27_ : Aside0 (gb194 ≠ gb188) := ⟨h27_⟩
 have n28_ : Aside0 (Below w.heap.size w w27) := ⟨h28_⟩
 clear BK183
 clear BK184
 clear BK185
 clear BK188
 clear HB
 clear h0_ h1_ h2_ h3_ h4_ h5_ h6_ h7_ h8_ h9_ h10_ h11_ h12_ h13_ h14_ h15_ h16_ h17_ h18_ h19_ h20_ h21_ h22_ h23_ h24_ h25_ h26_ h27_ h28_
 have BK183 := n0_
 have BK184 := n1_
 have BK185 := n2_
 have BK188 := n3_
 have BK193 := n4_
 have BK194 := n5_
 have GW193 := n6_
 have GE193 := n7_
 have NB183_193 := n8_
 have NB193_183 := n9_
 have NB184_193 := n10_
 have NB193_184 := n11_
 have NB185_193 := n12_
 have NB193_185 := n13_
 have NB188_193 := n14_
 have NB193_188 := n15_
 have NB194_193 := n16_
 have NB193_194 := n17_
 have GW194 := n18_
 have GE194 := n19_
 have NB183_194 := n20_
 have NB194_183 := n21_
 have NB184_194 := n22_
 have NB194_184 := n23_
 have NB185_194 := n24_
 have NB194_185 := n25_
 have NB188_194 := n26_
 have NB194_188 := n27_
 have HB := n28_
 clear n0_ n1_ n2_ n3_ n4_ n5_ n6_ n7_ n8_ n9_ n10_ n11_ n12_ n13_ n14_ n15_ n16_ n17_ n18_ n19_ n20_ n21_ n22_ n23_ n24_ n25_ n26_ n27_ n28_
 have hHeld : w27.cell? ⟨gb183, 0, none⟩ = some (.bool a0_0) ∧ w27.cell? ⟨gb183, 1, none⟩ = some (.int .u64 a0_1) ∧ w27.cell? ⟨gb183, 2, none⟩ = some (.int .u64 a0_2) ∧ w27.cell? ⟨gb188, 0, none⟩ = some (.int .u64 t186) ∧ w27.cell? ⟨gb188, 1, none⟩ = some (.int .u64 t187) ∧ w27.cell? ⟨gb184, 0, none⟩ = some (.bool a1_0) ∧ w27.cell? ⟨gb184, 1, none⟩ = some (.int .u64 a1_1) ∧ w27.cell? ⟨gb184, 2, none⟩ = some (.int .u64 a1_2) := hS_
 refine norm_ (a' := ?_) ?_ ?_
 rotate_left
 ·simp only [putAll, Act.put, List.setIfInBounds_toArray, List.set_cons_zero, List.set_cons_succ]
  rfl
 refine one_ (i := 10) (N := none) #[true, true, true, true, true, true, true, true, true, true, true, false] rfl rfl (one_of HT_.out (by kernel_rfl)) (by decide) (fun K hK => ?_)
 have hs28 : w27.cell? ⟨gb193, 0, none⟩ = some (.int .u64 0) := ck BK193 0
 have hfs28 := blk_frozen BK193.out 0
 have hns28_0 := NB183_193.out
 have hns28_1 := NB184_193.out
 have hns28_2 := NB185_193.out
 have hns28_3 := NB188_193.out
 have hns28_5 := NB194_193.out
 have hms28_0 := NB193_183.out
 have hms28_1 := NB193_184.out
 have hms28_2 := NB193_185.out
 have hms28_3 := NB193_188.out
 have hms28_5 := NB193_194.out
 have hs29 : w27.cell? ⟨gb193, 1, none⟩ = some (.int .u64 0) := ck BK193 1
 have hfs29 := blk_frozen BK193.out 1
 have hns29_0 := NB183_193.out
 have hns29_1 := NB184_193.out
 have hns29_2 := NB185_193.out
 have hns29_3 := NB188_193.out
 have hns29_5 := NB194_193.out
 have hms29_0 := NB193_183.out
 have hms29_1 := NB193_184.out
 have hms29_2 := NB193_185.out
 have hms29_3 := NB193_188.out
 have hms29_5 := NB193_194.out
 refine skip_ (w1 := ?_) (by rfl) rfl ?_ ?_
 rotate_left
 ·go_simp
  rfl
 refine hK.out _ _ ⟨((cell_far (p := ⟨gb193, _, none⟩) NB183_193.out _).trans (((cell_far (p := ⟨gb193, _, none⟩) NB183_193.out _).trans (hHeld.1)))), ((cell_far (p := ⟨gb193, _, none⟩) NB183_193.out _).trans (((cell_far (p := ⟨gb193, _, none⟩) NB183_193.out _).trans (hHeld.2.1)))), ((cell_far (p := ⟨gb193, _, none⟩) NB183_193.out _).trans (((cell_far (p := ⟨gb193, _, none⟩) NB183_193.out _).trans (hHeld.2.2.1)))), ((cell_far (p := ⟨gb193, _, none⟩) NB188_193.out _).trans (((cell_far (p := ⟨gb193, _, none⟩) NB188_193.out _).trans (hHeld.2.2.2.1)))), ((cell_far (p := ⟨gb193, _, none⟩) NB188_193.out _).trans (((cell_far (p := ⟨gb193, _, none⟩) NB188_193.out _).trans (hHeld.2.2.2.2.1)))), ((cell_far (p := ⟨gb193, _, none⟩) NB184_193.out _).trans (((cell_far (p := ⟨gb193, _, none⟩) NB184_193.out _).trans (hHeld.2.2.2.2.2.1)))), ((cell_far (p := ⟨gb193, _, none⟩) NB184_193.out _).trans (((cell_far (p := ⟨gb193, _, none⟩) NB184_193.out _).trans (hHeld.2.2.2.2.2.2.1)))), ((cell_far (p := ⟨gb193, _, none⟩) NB184_193.out _).trans (((cell_far (p := ⟨gb193, _, none⟩) NB184_193.out _).trans (hHeld.2.2.2.2.2.2.2))))⟩ (fun hHeld => ?_)
 clear hK K
 refine one_ (i := 11) (N := none) #[true, true, true, true, true, true, true, true, true, true, true, true] rfl rfl (one_of HT_.out (by kernel_rfl)) (by decide) (fun K hK => ?_)
 have hs30 : w27.cell? ⟨gb194, 0, none⟩ = some (.int .u64 0) := ck BK194 0
 have hfs30 := blk_frozen BK194.out 0
 have hns30_0 := NB183_194.out
 have hns30_1 := NB184_194.out
 have hns30_2 := NB185_194.out
 have hns30_3 := NB188_194.out
 have hns30_4 := NB193_194.out
 have hms30_0 := NB194_183.out
 have hms30_1 := NB194_184.out
 have hms30_2 := NB194_185.out
 have hms30_3 := NB194_188.out
 have hms30_4 := NB194_193.out
 have hs31 : w27.cell? ⟨gb194, 1, none⟩ = some (.int .u64 0) := ck BK194 1
 have hfs31 := blk_frozen BK194.out 1
 have hns31_0 := NB183_194.out
 have hns31_1 := NB184_194.out
 have hns31_2 := NB185_194.out
 have hns31_3 := NB188_194.out
 have hns31_4 := NB193_194.out
 have hms31_0 := NB194_183.out
 have hms31_1 := NB194_184.out
 have hms31_2 := NB194_185.out
 have hms31_3 := NB194_188.out
 have hms31_4 := NB194_193.out
 refine skip_ (w1 := ?_) (by rfl) rfl ?_ ?_
 rotate_left
 ·go_simp
  rfl
 refine hK.out _ _ ⟨((cell_far (p := ⟨gb194, _, none⟩) NB183_194.out _).trans (((cell_far (p := ⟨gb194, _, none⟩) NB183_194.out _).trans (hHeld.1)))), ((cell_far (p := ⟨gb194, _, none⟩) NB183_194.out _).trans (((cell_far (p := ⟨gb194, _, none⟩) NB183_194.out _).trans (hHeld.2.1)))), ((cell_far (p := ⟨gb194, _, none⟩) NB183_194.out _).trans (((cell_far (p := ⟨gb194, _, none⟩) NB183_194.out _).trans (hHeld.2.2.1)))), ((cell_far (p := ⟨gb194, _, none⟩) NB188_194.out _).trans (((cell_far (p := ⟨gb194, _, none⟩) NB188_194.out _).trans (hHeld.2.2.2.1)))), ((cell_far (p := ⟨gb194, _, none⟩) NB188_194.out _).trans (((cell_far (p := ⟨gb194, _, none⟩) NB188_194.out _).trans (hHeld.2.2.2.2.1)))), ((cell_far (p := ⟨gb194, _, none⟩) NB184_194.out _).trans (((cell_far (p := ⟨gb194, _, none⟩) NB184_194.out _).trans (hHeld.2.2.2.2.2.1)))), ((cell_far (p := ⟨gb194, _, none⟩) NB184_194.out _).trans (((cell_far (p := ⟨gb194, _, none⟩) NB184_194.out _).trans (hHeld.2.2.2.2.2.2.1)))), ((cell_far (p := ⟨gb194, _, none⟩) NB184_194.out _).trans (((cell_far (p := ⟨gb194, _, none⟩) NB184_194.out _).trans (hHeld.2.2.2.2.2.2.2))))⟩ (fun hHeld => ?_)
 clear hK K
 refine done_ (done_of HT_.out (by kernel_rfl)) ?_
 go_upto_region 3 with (fail)
 go_cut [9, 10] (fun v9 v10 wc => ∃ (kq : Nat) (x9_5 : Int) (x10_5 : Bool), v9 = .int .i64 x9_5 ∧ v10 = .bool x10_5 ∧ Aside0 (ratio_lowest.j0 kq x9_5 x10_5 t191 t192 = some (r1, r2, r3)) ∧ Aside0 (kq ≤ k) ∧ Aside0 (wc.heap[gb183]? = some (.cells #[.bool a0_0, .int .u64 a0_1, .int .u64 a0_2] 49 (0, 0))) ∧ Aside0 (wc.heap[gb184]? = some (.cells #[.bool a1_0, .int .u64 a1_1, .int .u64 a1_2] 49 (0, 0))) ∧ Aside0 (wc.heap[gb185]? = some (.cells #[.int .i64 0, .int .i64 0] 24 (0, 0))) ∧ Aside0 (wc.heap[gb188]? = some (.cells #[.int .u64 t186, .int .u64 t187] 47 (0, 0))) ∧ Aside0 (wc.heap[gb193]? = some (.cells #[.int .u64 t189, .int .u64 t190] 47 (0, 0))) ∧ Aside0 (wc.heap[gb194]? = some (.cells #[.int .u64 t191, .int .u64 t192] 47 (0, 0))) ∧ Aside0 (Below w.heap.size w wc))
 case first =>
  have H := HC6.out
  clear HC6
  by_cases c32 : (a0_0 != a1_0) = true
  ·rw [if_pos c32] at H
   have c32b0 : (a0_0 != a1_0) = true := c32
   (try (have c32b1 : decide (a0_0 = a1_0) = false := by simpa using c32))
   (try (have c32b2 : (a0_0 == a1_0) = false := by simpa using c32))
   (try (have c32b3 : ¬ (a0_0 = a1_0) := by simpa using c32))
   clear c32
   (first | rw [c32b0] | (simp only [i64_w, i32_w]; rw [c32b0]) | skip)
   replace H := Option.bind_eq_some_iff.mp H
   obtain ⟨⟨t195, t196⟩, A330, H⟩ := H
   replace H : (ratio_lowest.j0 k t195 t196 t191 t192) = some (r1, r2, r3) := H
   have A33 := Aside0.mk A330
   clear A330
   have H' := Aside0.mk H
   clear H
   try go_wp2
   have n0_ : Aside0 (((((w27.setCell ⟨gb193, 0, none⟩ (.int .u64 t189)).setCell ⟨gb193, 1, none⟩ (.int .u64 t190)).setCell ⟨gb194, 0, none⟩ (.int .u64 t191)).setCell ⟨gb194, 1, none⟩ (.int .u64 t192)).heap[gb183]? = some (.cells #[.bool a0_0, .int .u64 a0_1, .int .u64 a0_2] 49 (0, 0))) := ⟨by (with_reducible repeat (first | refine blk_drewN ?_ _ | refine blk_drew ?_ | refine blk_alloc ?_ _)); refine blk_far ?_ NB183_194.out _; (with_reducible repeat (first | refine blk_drewN ?_ _ | refine blk_drew ?_ | refine blk_alloc ?_ _)); refine blk_far ?_ NB183_194.out _; (with_reducible repeat (first | refine blk_drewN ?_ _ | refine blk_drew ?_ | refine blk_alloc ?_ _)); refine blk_far ?_ NB183_193.out _; (with_reducible repeat (first | refine blk_drewN ?_ _ | refine blk_drew ?_ | refine blk_alloc ?_ _)); refine blk_far ?_ NB183_193.out _; (with_reducible repeat (first | refine blk_drewN ?_ _ | refine blk_drew ?_ | refine blk_alloc ?_ _)); exact BK183.out⟩
   have n1_ : Aside0 (((((w27.setCell ⟨gb193, 0, none⟩ (.int .u64 t189)).setCell ⟨gb193, 1, none⟩ (.int .u64 t190)).setCell ⟨gb194, 0, none⟩ (.int .u64 t191)).setCell ⟨gb194, 1, none⟩ (.int .u64 t192)).heap[gb184]? = some (.cells #[.bool a1_0, .int .u64 a1_1, .int .u64 a1_2] 49 (0, 0))) := ⟨by (with_reducible repeat (first | refine blk_drewN ?_ _ | refine blk_drew ?_ | refine blk_alloc ?_ _)); refine blk_far ?_ NB184_194.out _; (with_reducible repeat (first | refine blk_drewN ?_ _ | refine blk_drew ?_ | refine blk_alloc ?_ _)); refine blk_far ?_ NB184_194.out _; (with_reducible repeat (first | refine blk_drewN ?_ _ | refine blk_drew ?_ | refine blk_alloc ?_ _)); refine blk_far ?_ NB184_193.out _; (with_reducible repeat (first | refine blk_drewN ?_ _ | refine blk_drew ?_ | refine blk_alloc ?_ _)); refine blk_far ?_ NB184_193.out _; (with_reducible repeat (first | refine blk_drewN ?_ _ | refine blk_drew ?_ | refine blk_alloc ?_ _)); exact BK184.out⟩
   have n2_ : Aside0 (((((w27.setCell ⟨gb193, 0, none⟩ (.int .u64 t189)).setCell ⟨gb193, 1, none⟩ (.int .u64 t190)).setCell ⟨gb194, 0, none⟩ (.int .u64 t191)).setCell ⟨gb194, 1, none⟩ (.int .u64 t192)).heap[gb185]? = some (.cells #[.int .i64 0, .int .i64 0] 24 (0, 0))) := ⟨by (with_reducible repeat (first | refine blk_drewN ?_ _ | refine blk_drew ?_ | refine blk_alloc ?_ _)); refine blk_far ?_ NB185_194.out _; (with_reducible repeat (first | refine blk_drewN ?_ _ | refine blk_drew ?_ | refine blk_alloc ?_ _)); refine blk_far ?_ NB185_194.out _; (with_reducible repeat (first | refine blk_drewN ?_ _ | refine blk_drew ?_ | refine blk_alloc ?_ _)); refine blk_far ?_ NB185_193.out _; (with_reducible repeat (first | refine blk_drewN ?_ _ | refine blk_drew ?_ | refine blk_alloc ?_ _)); refine blk_far ?_ NB185_193.out _; (with_reducible repeat (first | refine blk_drewN ?_ _ | refine blk_drew ?_ | refine blk_alloc ?_ _)); exact BK185.out⟩
   have n3_ : Aside0 (((((w27.setCell ⟨gb193, 0, none⟩ (.int .u64 t189)).setCell ⟨gb193, 1, none⟩ (.int .u64 t190)).setCell ⟨gb194, 0, none⟩ (.int .u64 t191)).setCell ⟨gb194, 1, none⟩ (.int .u64 t192)).heap[gb188]? = some (.cells #[.int .u64 t186, .int .u64 t187] 47 (0, 0))) := ⟨by (with_reducible repeat (first | refine blk_drewN ?_ _ | refine blk_drew ?_ | refine blk_alloc ?_ _)); refine blk_far ?_ NB188_194.out _; (with_reducible repeat (first | refine blk_drewN ?_ _ | refine blk_drew ?_ | refine blk_alloc ?_ _)); refine blk_far ?_ NB188_194.out _; (with_reducible repeat (first | refine blk_drewN ?_ _ | refine blk_drew ?_ | refine blk_alloc ?_ _)); refine blk_far ?_ NB188_193.out _; (with_reducible repeat (first | refine blk_drewN ?_ _ | refine blk_drew ?_ | refine blk_alloc ?_ _)); refine blk_far ?_ NB188_193.out _; (with_reducible repeat (first | refine blk_drewN ?_ _ | refine blk_drew ?_ | refine blk_alloc ?_ _)); exact BK188.out⟩
   have n4_ : Aside0 (((((w27.setCell ⟨gb193, 0, none⟩ (.int .u64 t189)).setCell ⟨gb193, 1, none⟩ (.int .u64 t190)).setCell ⟨gb194, 0, none⟩ (.int .u64 t191)).setCell ⟨gb194, 1, none⟩ (.int .u64 t192)).heap[gb193]? = some (.cells #[.int .u64 t189, .int .u64 t190] 47 (0, 0))) := ⟨by (with_reducible repeat (first | refine blk_drewN ?_ _ | refine blk_drew ?_ | refine blk_alloc ?_ _)); refine blk_far ?_ NB193_194.out _; (with_reducible repeat (first | refine blk_drewN ?_ _ | refine blk_drew ?_ | refine blk_alloc ?_ _)); refine blk_far ?_ NB193_194.out _; (with_reducible repeat (first | refine blk_drewN ?_ _ | refine blk_drew ?_ | refine blk_alloc ?_ _)); refine blk_put (cs := #[.int .u64 t189, .int .u64 0]) ?_ 1 _ rfl; (with_reducible repeat (first | refine blk_drewN ?_ _ | refine blk_drew ?_ | refine blk_alloc ?_ _)); refine blk_put (cs := #[.int .u64 0, .int .u64 0]) ?_ 0 _ rfl; (with_reducible repeat (first | refine blk_drewN ?_ _ | refine blk_drew ?_ | refine blk_alloc ?_ _)); exact BK193.out⟩
   have n5_ : Aside0 (((((w27.setCell ⟨gb193, 0, none⟩ (.int .u64 t189)).setCell ⟨gb193, 1, none⟩ (.int .u64 t190)).setCell ⟨gb194, 0, none⟩ (.int .u64 t191)).setCell ⟨gb194, 1, none⟩ (.int .u64 t192)).heap[gb194]? = some (.cells #[.int .u64 t191, .int .u64 t192] 47 (0, 0))) := ⟨by (with_reducible repeat (first | refine blk_drewN ?_ _ | refine blk_drew ?_ | refine blk_alloc ?_ _)); refine blk_put (cs := #[.int .u64 t191, .int .u64 0]) ?_ 1 _ rfl; (with_reducible repeat (first | refine blk_drewN ?_ _ | refine blk_drew ?_ | refine blk_alloc ?_ _)); refine blk_put (cs := #[.int .u64 0, .int .u64 0]) ?_ 0 _ rfl; (with_reducible repeat (first | refine blk_drewN ?_ _ | refine blk_drew ?_ | refine blk_alloc ?_ _)); refine blk_far ?_ NB194_193.out _; (with_reducible repeat (first | refine blk_drewN ?_ _ | refine blk_drew ?_ | refine blk_alloc ?_ _)); refine blk_far ?_ NB194_193.out _; (with_reducible repeat (first | refine blk_drewN ?_ _ | refine blk_drew ?_ | refine blk_alloc ?_ _)); exact BK194.out⟩
   have n6_ : Aside0 (Below w.heap.size w ((((w27.setCell ⟨gb193, 0, none⟩ (.int .u64 t189)).setCell ⟨gb193, 1, none⟩ (.int .u64 t190)).setCell ⟨gb194, 0, none⟩ (.int .u64 t191)).setCell ⟨gb194, 1, none⟩ (.int .u64 t192))) := ⟨bl HB⟩
   (try clear BK183)
   (try clear BK184)
   (try clear BK185)
   (try clear BK188)
   (try clear BK193)
   (try clear BK194)
   (try clear HB)
   generalize ((((w27.setCell ⟨gb193, 0, none⟩ (.int .u64 t189)).setCell ⟨gb193, 1, none⟩ (.int .u64 t190)).setCell ⟨gb194, 0, none⟩ (.int .u64 t191)).setCell ⟨gb194, 1, none⟩ (.int .u64 t192)) = w34 at n0_ n1_ n2_ n3_ n4_ n5_ n6_ ⊢
   have BK183 := n0_
   have BK184 := n1_
   have BK185 := n2_
   have BK188 := n3_
   have BK193 := n4_
   have BK194 := n5_
   have HB := n6_
   clear n0_ n1_ n2_ n3_ n4_ n5_ n6_
   replace BK183 := Aside0.mk (blk_drew BK183.out)
   replace BK184 := Aside0.mk (blk_drew BK184.out)
   replace BK185 := Aside0.mk (blk_drew BK185.out)
   replace BK188 := Aside0.mk (blk_drew BK188.out)
   replace BK193 := Aside0.mk (blk_drew BK193.out)
   replace BK194 := Aside0.mk (blk_drew BK194.out)
   replace HB := Aside0.mk (below_drew1 HB.out)
   refine start_ (n := 17) (S := fun w' => w'.cell? ⟨gb183, 0, none⟩ = some (.bool a0_0) ∧ w'.cell? ⟨gb183, 1, none⟩ = some (.int .u64 a0_1) ∧ w'.cell? ⟨gb183, 2, none⟩ = some (.int .u64 a0_2) ∧ w'.cell? ⟨gb184, 0, none⟩ = some (.bool a1_0) ∧ w'.cell? ⟨gb184, 1, none⟩ = some (.int .u64 a1_1) ∧ w'.cell? ⟨gb184, 2, none⟩ = some (.int .u64 a1_2) ∧ w'.cell? ⟨gb193, 0, none⟩ = some (.int .u64 t189) ∧ w'.cell? ⟨gb193, 1, none⟩ = some (.int .u64 t190)) (ds := []) #[false, false, false, false, false, false, false, false, false, false, false, false, false, false, false, false, false] (by kernel_rfl) rfl rfl ⟨ck BK183 0, ck BK183 1, ck BK183 2, ck BK184 0, ck BK184 1, ck BK184 2, ck BK193 0, ck BK193 1⟩ (fun hHeld => ?_); refine with_tabW ratio_lowest.tab3 ratio_lowest.bits3 (fun HT_ HW_ => ?_)
   generalize w34.drew = w35 at BK183 BK184 BK185 BK188 BK193 BK194 HB hHeld ⊢
   refine pure_ (i := 0) (N := some 27) (v := ?_) (a' := ?_) #[true, false, false, false, false, false, false, false, false, false, false, false, false, false, false, false, false] rfl rfl (any_of HT_.out (by kernel_rfl)) (fun _ _ _ h => h) (Or.inl ⟨by rfl, ?_⟩) ?_ ?_
   rotate_left
   ·intro w'
    go_simp
    with_reducible rfl
   rotate_left
   ·simp only [Act.put, List.setIfInBounds_toArray, List.set_cons_zero, List.set_cons_succ, i64_w, i32_w]
    rfl
   refine pure_ (i := 2) (N := some 29) (v := ?_) (a' := ?_) #[true, false, true, false, false, false, false, false, false, false, false, false, false, false, false, false, false] rfl rfl (any_of HT_.out (by kernel_rfl)) (fun _ _ _ h => h) (Or.inl ⟨by rfl, ?_⟩) ?_ ?_
   rotate_left
   ·intro w'
    go_simp
    with_reducible rfl
   rotate_left
   ·simp only [Act.put, List.setIfInBounds_toArray, List.set_cons_zero, List.set_cons_succ, i64_w, i32_w]
    rfl
   refine take_ (i := 1) (N := some 28) (v := ?_) (a' := ?_) #[true, true, true, false, false, false, false, false, false, false, false, false, false, false, false, false, false] rfl rfl (take_ofW HT_.out HW_.out (by kernel_rfl)) (fun _ _ _ h => h) (Or.inl ⟨by rfl, ?_⟩) hHeld ?_ ?_
   rotate_left
   ·rintro w' ⟨s0, s1, s2, s3, s4, s5, s6, s7⟩
    go_simp
    with_reducible rfl
   rotate_left
   ·simp only [Act.put, List.setIfInBounds_toArray, List.set_cons_zero, List.set_cons_succ, i64_w, i32_w]
    rfl
   refine take_ (i := 3) (N := some 30) (v := ?_) (a' := ?_) #[true, true, true, true, false, false, false, false, false, false, false, false, false, false, false, false, false] rfl rfl (take_ofW HT_.out HW_.out (by kernel_rfl)) (fun _ _ _ h => h) (Or.inl ⟨by rfl, ?_⟩) hHeld ?_ ?_
   rotate_left
   ·rintro w' ⟨s0, s1, s2, s3, s4, s5, s6, s7⟩
    go_simp
    with_reducible rfl
   rotate_left
   ·simp only [Act.put, List.setIfInBounds_toArray, List.set_cons_zero, List.set_cons_succ, i64_w, i32_w]
    rfl
   refine pure_ (i := 4) (N := some 31) (v := ?_) (a' := ?_) #[true, true, true, true, true, false, false, false, false, false, false, false, false, false, false, false, false] rfl rfl (any_of HT_.out (by kernel_rfl)) (fun _ _ _ h => h) (Or.inl ⟨by rfl, ?_⟩) ?_ ?_
   rotate_left
   ·intro w'
    go_simp
    with_reducible rfl
   rotate_left
   ·simp only [Act.put, List.setIfInBounds_toArray, List.set_cons_zero, List.set_cons_succ, i64_w, i32_w]
    rfl
   refine pure_ (i := 5) (N := some 32) (v := ?_) (a' := ?_) #[true, true, true, true, true, true, false, false, false, false, false, false, false, false, false, false, false] rfl rfl (any_of HT_.out (by kernel_rfl)) (fun _ _ _ h => h) (Or.inl ⟨by rfl, ?_⟩) ?_ ?_
   rotate_left
   ·intro w'
    go_simp
    with_reducible rfl
   rotate_left
   ·simp only [Act.put, List.setIfInBounds_toArray, List.set_cons_zero, List.set_cons_succ, i64_w, i32_w]
    rfl
   refine pure_ (i := 7) (N := some 34) (v := ?_) (a' := ?_) #[true, true, true, true, true, true, false, true, false, false, false, false, false, false, false, false, false] rfl rfl (any_of HT_.out (by kernel_rfl)) (fun _ _ _ h => h) (Or.inl ⟨by rfl, ?_⟩) ?_ ?_
   rotate_left
   ·intro w'
    go_simp
    with_reducible rfl
   rotate_left
   ·simp only [Act.put, List.setIfInBounds_toArray, List.set_cons_zero, List.set_cons_succ, i64_w, i32_w]
    rfl
   refine take_ (i := 6) (N := some 33) (v := ?_) (a' := ?_) #[true, true, true, true, true, true, true, true, false, false, false, false, false, false, false, false, false] rfl rfl (take_ofW HT_.out HW_.out (by kernel_rfl)) (fun _ _ _ h => h) (Or.inl ⟨by rfl, ?_⟩) hHeld ?_ ?_
   rotate_left
   ·rintro w' ⟨s0, s1, s2, s3, s4, s5, s6, s7⟩
    go_simp
    with_reducible rfl
   rotate_left
   ·simp only [Act.put, List.setIfInBounds_toArray, List.set_cons_zero, List.set_cons_succ, i64_w, i32_w]
    rfl
   refine pure_ (i := 8) (N := some 35) (v := ?_) (a' := ?_) #[true, true, true, true, true, true, true, true, true, false, false, false, false, false, false, false, false] rfl rfl (any_of HT_.out (by kernel_rfl)) (fun _ _ _ h => h) (Or.inl ⟨by rfl, ?_⟩) ?_ ?_
   rotate_left
   ·intro w'
    go_simp
    with_reducible rfl
   rotate_left
   ·simp only [Act.put, List.setIfInBounds_toArray, List.set_cons_zero, List.set_cons_succ, i64_w, i32_w]
    rfl
   refine pure_ (i := 9) (N := some 36) (v := ?_) (a' := ?_) #[true, true, true, true, true, true, true, true, true, true, false, false, false, false, false, false, false] rfl rfl (any_of HT_.out (by kernel_rfl)) (fun _ _ _ h => h) (Or.inl ⟨by rfl, ?_⟩) ?_ ?_
   rotate_left
   ·intro w'
    go_simp
    with_reducible rfl
   rotate_left
   ·simp only [Act.put, List.setIfInBounds_toArray, List.set_cons_zero, List.set_cons_succ, i64_w, i32_w]
    rfl
   refine take_ (i := 10) (N := some 37) (v := ?_) (a' := ?_) #[true, true, true, true, true, true, true, true, true, true, true, false, false, false, false, false, false] rfl rfl (take_ofW HT_.out HW_.out (by kernel_rfl)) (fun _ _ _ h => h) (Or.inl ⟨by rfl, ?_⟩) hHeld ?_ ?_
   rotate_left
   ·rintro w' ⟨s0, s1, s2, s3, s4, s5, s6, s7⟩
    go_simp
    with_reducible rfl
   rotate_left
   ·simp only [Act.put, List.setIfInBounds_toArray, List.set_cons_zero, List.set_cons_succ, i64_w, i32_w]
    rfl
   refine one_ (i := 11) (N := some 38) #[true, true, true, true, true, true, true, true, true, true, true, true, false, false, false, false, false] rfl rfl (one_of HT_.out (by kernel_rfl)) (by decide) (fun K hK => ?_)
   refine goes_ Tryd.func45 (by kernel_rfl) rfl #[.bool (!(t189 == 0) || (!(t190 == 0))), .agg #[.int .u64 t189, .int .u64 t190]] (by rfl) rfl rfl gm_ ?_
   with_reducible refine (ratio_fits.calls k (!(t189 == 0) || (!(t190 == 0))) t189 t190 t195 t196 _ A33.out).mono ?_
   rintro e w36 ⟨rfl, hb⟩
   refine ⟨_, rfl, ?_⟩
   replace BK183 := Aside0.mk (blk_below (kb BK183) hb)
   replace BK184 := Aside0.mk (blk_below (kb BK184) hb)
   replace BK185 := Aside0.mk (blk_below (kb BK185) hb)
   replace BK188 := Aside0.mk (blk_below (kb BK188) hb)
   replace BK193 := Aside0.mk (blk_below (kb BK193) hb)
   replace BK194 := Aside0.mk (blk_below (kb BK194) hb)
   replace HB := Aside0.mk (below_step (bl HB) hb)
   (try clear hb)
   (try clear hb2)
   (try clear hk)
   (try clear hi)
   refine hK.out _ _ ⟨ck BK183 0, ck BK183 1, ck BK183 2, ck BK184 0, ck BK184 1, ck BK184 2, ck BK193 0, ck BK193 1⟩ (fun hHeld => ?_)
   clear hK K
   refine norm_ (a' := ?_) ?_ ?_
   rotate_left
   ·show Act.put _ (some 38) _ = _
    simp only [Act.put, List.setIfInBounds_toArray, List.set_cons_zero, List.set_cons_succ, i64_w, i32_w]
    rfl
   refine pure_ (i := 12) (N := some 26) (v := ?_) (a' := ?_) #[true, true, true, true, true, true, true, true, true, true, true, true, true, false, false, false, false] rfl rfl (any_of HT_.out (by kernel_rfl)) (fun _ _ _ h => h) (Or.inl ⟨by rfl, ?_⟩) ?_ ?_
   rotate_left
   ·intro w'
    go_simp
    with_reducible rfl
   rotate_left
   ·simp only [Act.put, List.setIfInBounds_toArray, List.set_cons_zero, List.set_cons_succ, i64_w, i32_w]
    rfl
   refine pure_ (i := 13) (N := some 39) (v := ?_) (a' := ?_) #[true, true, true, true, true, true, true, true, true, true, true, true, true, true, false, false, false] rfl rfl (any_of HT_.out (by kernel_rfl)) (fun _ _ _ h => h) (Or.inl ⟨by rfl, ?_⟩) ?_ ?_
   rotate_left
   ·intro w'
    go_simp
    with_reducible rfl
   rotate_left
   ·simp only [Act.put, List.setIfInBounds_toArray, List.set_cons_zero, List.set_cons_succ, i64_w, i32_w]
    rfl
   refine pure_ (i := 14) (N := some 40) (v := ?_) (a' := ?_) #[true, true, true, true, true, true, true, true, true, true, true, true, true, true, true, false, false] rfl rfl (any_of HT_.out (by kernel_rfl)) (fun _ _ _ h => h) (Or.inl ⟨by rfl, ?_⟩) ?_ ?_
   rotate_left
   ·intro w'
    go_simp
    with_reducible rfl
   rotate_left
   ·simp only [Act.put, List.setIfInBounds_toArray, List.set_cons_zero, List.set_cons_succ, i64_w, i32_w]
    rfl
   refine pure_ (i := 15) (N := some 9) (v := ?_) (a' := ?_) #[true, true, true, true, true, true, true, true, true, true, true, true, true, true, true, true, false] rfl rfl (any_of HT_.out (by kernel_rfl)) (fun _ _ _ h => h) (Or.inl ⟨by rfl, ?_⟩) ?_ ?_
   rotate_left
   ·intro w'
    go_simp
    with_reducible rfl
   rotate_left
   ·simp only [Act.put, List.setIfInBounds_toArray, List.set_cons_zero, List.set_cons_succ, i64_w, i32_w]
    rfl
   refine pure_ (i := 16) (N := some 10) (v := ?_) (a' := ?_) #[true, true, true, true, true, true, true, true, true, true, true, true, true, true, true, true, true] rfl rfl (any_of HT_.out (by kernel_rfl)) (fun _ _ _ h => h) (Or.inl ⟨by rfl, ?_⟩) ?_ ?_
   rotate_left
   ·intro w'
    go_simp
    with_reducible rfl
   rotate_left
   ·simp only [Act.put, List.setIfInBounds_toArray, List.set_cons_zero, List.set_cons_succ, i64_w, i32_w]
    rfl
   refine done_ (done_of HT_.out (by kernel_rfl)) ?_
   try go_wp2
   go_meet
   case rel => exact ⟨_, (t195), (t196), (by first | rfl | (simp; done) | (simp [*]; done)), (by first | rfl | (simp; done) | (simp [*]; done)), H', ⟨by first | omega | exact Nat.le_refl _⟩, ⟨kb BK183⟩, ⟨kb BK184⟩, ⟨kb BK185⟩, ⟨kb BK188⟩, ⟨kb BK193⟩, ⟨kb BK194⟩, ⟨bl HB⟩⟩
  ·rw [if_neg c32] at H
   have c32b0 : (a0_0 != a1_0) = false := by simpa using c32
   (try (have c32b1 : decide (a0_0 = a1_0) = true := by simpa using c32))
   (try (have c32b2 : (a0_0 == a1_0) = true := by simpa using c32))
   clear c32
   (first | rw [c32b0] | (simp only [i64_w, i32_w]; rw [c32b0]) | skip)
   replace H := Option.bind_eq_some_iff.mp H
   obtain ⟨⟨t197, t198⟩, A370, H⟩ := H
   replace H : (ratio_lowest.j0 k t197 t198 t191 t192) = some (r1, r2, r3) := H
   have A37 := Aside0.mk A370
   clear A370
   have H' := Aside0.mk H
   clear H
   try go_wp2
   have n0_ : Aside0 (((((w27.setCell ⟨gb193, 0, none⟩ (.int .u64 t189)).setCell ⟨gb193, 1, none⟩ (.int .u64 t190)).setCell ⟨gb194, 0, none⟩ (.int .u64 t191)).setCell ⟨gb194, 1, none⟩ (.int .u64 t192)).heap[gb183]? = some (.cells #[.bool a0_0, .int .u64 a0_1, .int .u64 a0_2] 49 (0, 0))) := ⟨by (with_reducible repeat (first | refine blk_drewN ?_ _ | refine blk_drew ?_ | refine blk_alloc ?_ _)); refine blk_far ?_ NB183_194.out _; (with_reducible repeat (first | refine blk_drewN ?_ _ | refine blk_drew ?_ | refine blk_alloc ?_ _)); refine blk_far ?_ NB183_194.out _; (with_reducible repeat (first | refine blk_drewN ?_ _ | refine blk_drew ?_ | refine blk_alloc ?_ _)); refine blk_far ?_ NB183_193.out _; (with_reducible repeat (first | refine blk_drewN ?_ _ | refine blk_drew ?_ | refine blk_alloc ?_ _)); refine blk_far ?_ NB183_193.out _; (with_reducible repeat (first | refine blk_drewN ?_ _ | refine blk_drew ?_ | refine blk_alloc ?_ _)); exact BK183.out⟩
   have n1_ : Aside0 (((((w27.setCell ⟨gb193, 0, none⟩ (.int .u64 t189)).setCell ⟨gb193, 1, none⟩ (.int .u64 t190)).setCell ⟨gb194, 0, none⟩ (.int .u64 t191)).setCell ⟨gb194, 1, none⟩ (.int .u64 t192)).heap[gb184]? = some (.cells #[.bool a1_0, .int .u64 a1_1, .int .u64 a1_2] 49 (0, 0))) := ⟨by (with_reducible repeat (first | refine blk_drewN ?_ _ | refine blk_drew ?_ | refine blk_alloc ?_ _)); refine blk_far ?_ NB184_194.out _; (with_reducible repeat (first | refine blk_drewN ?_ _ | refine blk_drew ?_ | refine blk_alloc ?_ _)); refine blk_far ?_ NB184_194.out _; (with_reducible repeat (first | refine blk_drewN ?_ _ | refine blk_drew ?_ | refine blk_alloc ?_ _)); refine blk_far ?_ NB184_193.out _; (with_reducible repeat (first | refine blk_drewN ?_ _ | refine blk_drew ?_ | refine blk_alloc ?_ _)); refine blk_far ?_ NB184_193.out _; (with_reducible repeat (first | refine blk_drewN ?_ _ | refine blk_drew ?_ | refine blk_alloc ?_ _)); exact BK184.out⟩
   have n2_ : Aside0 (((((w27.setCell ⟨gb193, 0, none⟩ (.int .u64 t189)).setCell ⟨gb193, 1, none⟩ (.int .u64 t190)).setCell ⟨gb194, 0, none⟩ (.int .u64 t191)).setCell ⟨gb194, 1, none⟩ (.int .u64 t192)).heap[gb185]? = some (.cells #[.int .i64 0, .int .i64 0] 24 (0, 0))) := ⟨by (with_reducible repeat (first | refine blk_drewN ?_ _ | refine blk_drew ?_ | refine blk_alloc ?_ _)); refine blk_far ?_ NB185_194.out _; (with_reducible repeat (first | refine blk_drewN ?_ _ | refine blk_drew ?_ | refine blk_alloc ?_ _)); refine blk_far ?_ NB185_194.out _; (with_reducible repeat (first | refine blk_drewN ?_ _ | refine blk_drew ?_ | refine blk_alloc ?_ _)); refine blk_far ?_ NB185_193.out _; (with_reducible repeat (first | refine blk_drewN ?_ _ | refine blk_drew ?_ | refine blk_alloc ?_ _)); refine blk_far ?_ NB185_193.out _; (with_reducible repeat (first | refine blk_drewN ?_ _ | refine blk_drew ?_ | refine blk_alloc ?_ _)); exact BK185.out⟩
   have n3_ : Aside0 (((((w27.setCell ⟨gb193, 0, none⟩ (.int .u64 t189)).setCell ⟨gb193, 1, none⟩ (.int .u64 t190)).setCell ⟨gb194, 0, none⟩ (.int .u64 t191)).setCell ⟨gb194, 1, none⟩ (.int .u64 t192)).heap[gb188]? = some (.cells #[.int .u64 t186, .int .u64 t187] 47 (0, 0))) := ⟨by (with_reducible repeat (first | refine blk_drewN ?_ _ | refine blk_drew ?_ | refine blk_alloc ?_ _)); refine blk_far ?_ NB188_194.out _; (with_reducible repeat (first | refine blk_drewN ?_ _ | refine blk_drew ?_ | refine blk_alloc ?_ _)); refine blk_far ?_ NB188_194.out _; (with_reducible repeat (first | refine blk_drewN ?_ _ | refine blk_drew ?_ | refine blk_alloc ?_ _)); refine blk_far ?_ NB188_193.out _; (with_reducible repeat (first | refine blk_drewN ?_ _ | refine blk_drew ?_ | refine blk_alloc ?_ _)); refine blk_far ?_ NB188_193.out _; (with_reducible repeat (first | refine blk_drewN ?_ _ | refine blk_drew ?_ | refine blk_alloc ?_ _)); exact BK188.out⟩
   have n4_ : Aside0 (((((w27.setCell ⟨gb193, 0, none⟩ (.int .u64 t189)).setCell ⟨gb193, 1, none⟩ (.int .u64 t190)).setCell ⟨gb194, 0, none⟩ (.int .u64 t191)).setCell ⟨gb194, 1, none⟩ (.int .u64 t192)).heap[gb193]? = some (.cells #[.int .u64 t189, .int .u64 t190] 47 (0, 0))) := ⟨by (with_reducible repeat (first | refine blk_drewN ?_ _ | refine blk_drew ?_ | refine blk_alloc ?_ _)); refine blk_far ?_ NB193_194.out _; (with_reducible repeat (first | refine blk_drewN ?_ _ | refine blk_drew ?_ | refine blk_alloc ?_ _)); refine blk_far ?_ NB193_194.out _; (with_reducible repeat (first | refine blk_drewN ?_ _ | refine blk_drew ?_ | refine blk_alloc ?_ _)); refine blk_put (cs := #[.int .u64 t189, .int .u64 0]) ?_ 1 _ rfl; (with_reducible repeat (first | refine blk_drewN ?_ _ | refine blk_drew ?_ | refine blk_alloc ?_ _)); refine blk_put (cs := #[.int .u64 0, .int .u64 0]) ?_ 0 _ rfl; (with_reducible repeat (first | refine blk_drewN ?_ _ | refine blk_drew ?_ | refine blk_alloc ?_ _)); exact BK193.out⟩
   have n5_ : Aside0 (((((w27.setCell ⟨gb193, 0, none⟩ (.int .u64 t189)).setCell ⟨gb193, 1, none⟩ (.int .u64 t190)).setCell ⟨gb194, 0, none⟩ (.int .u64 t191)).setCell ⟨gb194, 1, none⟩ (.int .u64 t192)).heap[gb194]? = some (.cells #[.int .u64 t191, .int .u64 t192] 47 (0, 0))) := ⟨by (with_reducible repeat (first | refine blk_drewN ?_ _ | refine blk_drew ?_ | refine blk_alloc ?_ _)); refine blk_put (cs := #[.int .u64 t191, .int .u64 0]) ?_ 1 _ rfl; (with_reducible repeat (first | refine blk_drewN ?_ _ | refine blk_drew ?_ | refine blk_alloc ?_ _)); refine blk_put (cs := #[.int .u64 0, .int .u64 0]) ?_ 0 _ rfl; (with_reducible repeat (first | refine blk_drewN ?_ _ | refine blk_drew ?_ | refine blk_alloc ?_ _)); refine blk_far ?_ NB194_193.out _; (with_reducible repeat (first | refine blk_drewN ?_ _ | refine blk_drew ?_ | refine blk_alloc ?_ _)); refine blk_far ?_ NB194_193.out _; (with_reducible repeat (first | refine blk_drewN ?_ _ | refine blk_drew ?_ | refine blk_alloc ?_ _)); exact BK194.out⟩
   have n6_ : Aside0 (Below w.heap.size w ((((w27.setCell ⟨gb193, 0, none⟩ (.int .u64 t189)).setCell ⟨gb193, 1, none⟩ (.int .u64 t190)).setCell ⟨gb194, 0, none⟩ (.int .u64 t191)).setCell ⟨gb194, 1, none⟩ (.int .u64 t192))) := ⟨bl HB⟩
   (try clear BK183)
   (try clear BK184)
   (try clear BK185)
   (try clear BK188)
   (try clear BK193)
   (try clear BK194)
   (try clear HB)
   generalize ((((w27.setCell ⟨gb193, 0, none⟩ (.int .u64 t189)).setCell ⟨gb193, 1, none⟩ (.int .u64 t190)).setCell ⟨gb194, 0, none⟩ (.int .u64 t191)).setCell ⟨gb194, 1, none⟩ (.int .u64 t192)) = w38 at n0_ n1_ n2_ n3_ n4_ n5_ n6_ ⊢
   have BK183 := n0_
   have BK184 := n1_
   have BK185 := n2_
   have BK188 := n3_
   have BK193 := n4_
   have BK194 := n5_
   have HB := n6_
   clear n0_ n1_ n2_ n3_ n4_ n5_ n6_
   replace BK183 := Aside0.mk (blk_drew BK183.out)
   replace BK184 := Aside0.mk (blk_drew BK184.out)
   replace BK185 := Aside0.mk (blk_drew BK185.out)
   replace BK188 := Aside0.mk (blk_drew BK188.out)
   replace BK193 := Aside0.mk (blk_drew BK193.out)
   replace BK194 := Aside0.mk (blk_drew BK194.out)
   replace HB := Aside0.mk (below_drew1 HB.out)
   refine start_ (n := 17) (S := fun w' => w'.cell? ⟨gb183, 0, none⟩ = some (.bool a0_0) ∧ w'.cell? ⟨gb183, 1, none⟩ = some (.int .u64 a0_1) ∧ w'.cell? ⟨gb183, 2, none⟩ = some (.int .u64 a0_2) ∧ w'.cell? ⟨gb184, 0, none⟩ = some (.bool a1_0) ∧ w'.cell? ⟨gb184, 1, none⟩ = some (.int .u64 a1_1) ∧ w'.cell? ⟨gb184, 2, none⟩ = some (.int .u64 a1_2) ∧ w'.cell? ⟨gb193, 0, none⟩ = some (.int .u64 t189) ∧ w'.cell? ⟨gb193, 1, none⟩ = some (.int .u64 t190)) (ds := []) #[false, false, false, false, false, false, false, false, false, false, false, false, false, false, false, false, false] (by kernel_rfl) rfl rfl ⟨ck BK183 0, ck BK183 1, ck BK183 2, ck BK184 0, ck BK184 1, ck BK184 2, ck BK193 0, ck BK193 1⟩ (fun hHeld => ?_); refine with_tabW ratio_lowest.tab3 ratio_lowest.bits3 (fun HT_ HW_ => ?_)
   generalize w38.drew = w39 at BK183 BK184 BK185 BK188 BK193 BK194 HB hHeld ⊢
   refine pure_ (i := 0) (N := some 27) (v := ?_) (a' := ?_) #[true, false, false, false, false, false, false, false, false, false, false, false, false, false, false, false, false] rfl rfl (any_of HT_.out (by kernel_rfl)) (fun _ _ _ h => h) (Or.inl ⟨by rfl, ?_⟩) ?_ ?_
   rotate_left
   ·intro w'
    go_simp
    with_reducible rfl
   rotate_left
   ·simp only [Act.put, List.setIfInBounds_toArray, List.set_cons_zero, List.set_cons_succ, i64_w, i32_w]
    rfl
   refine pure_ (i := 2) (N := some 29) (v := ?_) (a' := ?_) #[true, false, true, false, false, false, false, false, false, false, false, false, false, false, false, false, false] rfl rfl (any_of HT_.out (by kernel_rfl)) (fun _ _ _ h => h) (Or.inl ⟨by rfl, ?_⟩) ?_ ?_
   rotate_left
   ·intro w'
    go_simp
    with_reducible rfl
   rotate_left
   ·simp only [Act.put, List.setIfInBounds_toArray, List.set_cons_zero, List.set_cons_succ, i64_w, i32_w]
    rfl
   refine take_ (i := 1) (N := some 28) (v := ?_) (a' := ?_) #[true, true, true, false, false, false, false, false, false, false, false, false, false, false, false, false, false] rfl rfl (take_ofW HT_.out HW_.out (by kernel_rfl)) (fun _ _ _ h => h) (Or.inl ⟨by rfl, ?_⟩) hHeld ?_ ?_
   rotate_left
   ·rintro w' ⟨s0, s1, s2, s3, s4, s5, s6, s7⟩
    go_simp
    with_reducible rfl
   rotate_left
   ·simp only [Act.put, List.setIfInBounds_toArray, List.set_cons_zero, List.set_cons_succ, i64_w, i32_w]
    rfl
   refine take_ (i := 3) (N := some 30) (v := ?_) (a' := ?_) #[true, true, true, true, false, false, false, false, false, false, false, false, false, false, false, false, false] rfl rfl (take_ofW HT_.out HW_.out (by kernel_rfl)) (fun _ _ _ h => h) (Or.inl ⟨by rfl, ?_⟩) hHeld ?_ ?_
   rotate_left
   ·rintro w' ⟨s0, s1, s2, s3, s4, s5, s6, s7⟩
    go_simp
    with_reducible rfl
   rotate_left
   ·simp only [Act.put, List.setIfInBounds_toArray, List.set_cons_zero, List.set_cons_succ, i64_w, i32_w]
    rfl
   refine pure_ (i := 4) (N := some 31) (v := ?_) (a' := ?_) #[true, true, true, true, true, false, false, false, false, false, false, false, false, false, false, false, false] rfl rfl (any_of HT_.out (by kernel_rfl)) (fun _ _ _ h => h) (Or.inl ⟨by rfl, ?_⟩) ?_ ?_
   rotate_left
   ·intro w'
    go_simp
    with_reducible rfl
   rotate_left
   ·simp only [Act.put, List.setIfInBounds_toArray, List.set_cons_zero, List.set_cons_succ, i64_w, i32_w]
    rfl
   refine pure_ (i := 5) (N := some 32) (v := ?_) (a' := ?_) #[true, true, true, true, true, true, false, false, false, false, false, false, false, false, false, false, false] rfl rfl (any_of HT_.out (by kernel_rfl)) (fun _ _ _ h => h) (Or.inl ⟨by rfl, ?_⟩) ?_ ?_
   rotate_left
   ·intro w'
    go_simp
    with_reducible rfl
   rotate_left
   ·simp only [Act.put, List.setIfInBounds_toArray, List.set_cons_zero, List.set_cons_succ, i64_w, i32_w]
    rfl
   refine pure_ (i := 6) (N := some 33) (v := undef) (a' := ?_) #[true, true, true, true, true, true, true, false, false, false, false, false, false, false, false, false, false] rfl rfl (any_of HT_.out (by kernel_rfl)) (fun _ _ _ h => h) (Or.inr ⟨by rfl, rfl⟩) ?_ ?_
   rotate_left
   ·simp only [Act.put, List.setIfInBounds_toArray, List.set_cons_zero, List.set_cons_succ, i64_w, i32_w]
    rfl
   refine pure_ (i := 7) (N := some 34) (v := undef) (a' := ?_) #[true, true, true, true, true, true, true, true, false, false, false, false, false, false, false, false, false] rfl rfl (any_of HT_.out (by kernel_rfl)) (fun _ _ _ h => h) (Or.inr ⟨by rfl, rfl⟩) ?_ ?_
   rotate_left
   ·simp only [Act.put, List.setIfInBounds_toArray, List.set_cons_zero, List.set_cons_succ, i64_w, i32_w]
    rfl
   refine pure_ (i := 8) (N := some 35) (v := undef) (a' := ?_) #[true, true, true, true, true, true, true, true, true, false, false, false, false, false, false, false, false] rfl rfl (any_of HT_.out (by kernel_rfl)) (fun _ _ _ h => h) (Or.inr ⟨by rfl, rfl⟩) ?_ ?_
   rotate_left
   ·simp only [Act.put, List.setIfInBounds_toArray, List.set_cons_zero, List.set_cons_succ, i64_w, i32_w]
    rfl
   refine pure_ (i := 9) (N := some 36) (v := ?_) (a' := ?_) #[true, true, true, true, true, true, true, true, true, true, false, false, false, false, false, false, false] rfl rfl (any_of HT_.out (by kernel_rfl)) (fun _ _ _ h => h) (Or.inl ⟨by rfl, ?_⟩) ?_ ?_
   rotate_left
   ·intro w'
    go_simp
    with_reducible rfl
   rotate_left
   ·simp only [Act.put, List.setIfInBounds_toArray, List.set_cons_zero, List.set_cons_succ, i64_w, i32_w]
    rfl
   refine take_ (i := 10) (N := some 37) (v := ?_) (a' := ?_) #[true, true, true, true, true, true, true, true, true, true, true, false, false, false, false, false, false] rfl rfl (take_ofW HT_.out HW_.out (by kernel_rfl)) (fun _ _ _ h => h) (Or.inl ⟨by rfl, ?_⟩) hHeld ?_ ?_
   rotate_left
   ·rintro w' ⟨s0, s1, s2, s3, s4, s5, s6, s7⟩
    go_simp
    with_reducible rfl
   rotate_left
   ·simp only [Act.put, List.setIfInBounds_toArray, List.set_cons_zero, List.set_cons_succ, i64_w, i32_w]
    rfl
   refine one_ (i := 11) (N := some 38) #[true, true, true, true, true, true, true, true, true, true, true, true, false, false, false, false, false] rfl rfl (one_of HT_.out (by kernel_rfl)) (by decide) (fun K hK => ?_)
   refine goes_ Tryd.func45 (by kernel_rfl) rfl #[.bool false, .agg #[.int .u64 t189, .int .u64 t190]] (by rfl) rfl rfl gm_ ?_
   with_reducible refine (ratio_fits.calls k false t189 t190 t197 t198 _ A37.out).mono ?_
   rintro e w40 ⟨rfl, hb⟩
   refine ⟨_, rfl, ?_⟩
   replace BK183 := Aside0.mk (blk_below (kb BK183) hb)
   replace BK184 := Aside0.mk (blk_below (kb BK184) hb)
   replace BK185 := Aside0.mk (blk_below (kb BK185) hb)
   replace BK188 := Aside0.mk (blk_below (kb BK188) hb)
   replace BK193 := Aside0.mk (blk_below (kb BK193) hb)
   replace BK194 := Aside0.mk (blk_below (kb BK194) hb)
   replace HB := Aside0.mk (below_step (bl HB) hb)
   (try clear hb)
   (try clear hb2)
   (try clear hk)
   (try clear hi)
   refine hK.out _ _ ⟨ck BK183 0, ck BK183 1, ck BK183 2, ck BK184 0, ck BK184 1, ck BK184 2, ck BK193 0, ck BK193 1⟩ (fun hHeld => ?_)
   clear hK K
   refine norm_ (a' := ?_) ?_ ?_
   rotate_left
   ·show Act.put _ (some 38) _ = _
    simp only [Act.put, List.setIfInBounds_toArray, List.set_cons_zero, List.set_cons_succ, i64_w, i32_w]
    rfl
   refine pure_ (i := 12) (N := some 26) (v := ?_) (a' := ?_) #[true, true, true, true, true, true, true, true, true, true, true, true, true, false, false, false, false] rfl rfl (any_of HT_.out (by kernel_rfl)) (fun _ _ _ h => h) (Or.inl ⟨by rfl, ?_⟩) ?_ ?_
   rotate_left
   ·intro w'
    go_simp
    with_reducible rfl
   rotate_left
   ·simp only [Act.put, List.setIfInBounds_toArray, List.set_cons_zero, List.set_cons_succ, i64_w, i32_w]
    rfl
   refine pure_ (i := 13) (N := some 39) (v := ?_) (a' := ?_) #[true, true, true, true, true, true, true, true, true, true, true, true, true, true, false, false, false] rfl rfl (any_of HT_.out (by kernel_rfl)) (fun _ _ _ h => h) (Or.inl ⟨by rfl, ?_⟩) ?_ ?_
   rotate_left
   ·intro w'
    go_simp
    with_reducible rfl
   rotate_left
   ·simp only [Act.put, List.setIfInBounds_toArray, List.set_cons_zero, List.set_cons_succ, i64_w, i32_w]
    rfl
   refine pure_ (i := 14) (N := some 40) (v := ?_) (a' := ?_) #[true, true, true, true, true, true, true, true, true, true, true, true, true, true, true, false, false] rfl rfl (any_of HT_.out (by kernel_rfl)) (fun _ _ _ h => h) (Or.inl ⟨by rfl, ?_⟩) ?_ ?_
   rotate_left
   ·intro w'
    go_simp
    with_reducible rfl
   rotate_left
   ·simp only [Act.put, List.setIfInBounds_toArray, List.set_cons_zero, List.set_cons_succ, i64_w, i32_w]
    rfl
   refine pure_ (i := 15) (N := some 9) (v := ?_) (a' := ?_) #[true, true, true, true, true, true, true, true, true, true, true, true, true, true, true, true, false] rfl rfl (any_of HT_.out (by kernel_rfl)) (fun _ _ _ h => h) (Or.inl ⟨by rfl, ?_⟩) ?_ ?_
   rotate_left
   ·intro w'
    go_simp
    with_reducible rfl
   rotate_left
   ·simp only [Act.put, List.setIfInBounds_toArray, List.set_cons_zero, List.set_cons_succ, i64_w, i32_w]
    rfl
   refine pure_ (i := 16) (N := some 10) (v := ?_) (a' := ?_) #[true, true, true, true, true, true, true, true, true, true, true, true, true, true, true, true, true] rfl rfl (any_of HT_.out (by kernel_rfl)) (fun _ _ _ h => h) (Or.inl ⟨by rfl, ?_⟩) ?_ ?_
   rotate_left
   ·intro w'
    go_simp
    with_reducible rfl
   rotate_left
   ·simp only [Act.put, List.setIfInBounds_toArray, List.set_cons_zero, List.set_cons_succ, i64_w, i32_w]
    rfl
   refine done_ (done_of HT_.out (by kernel_rfl)) ?_
   try go_wp2
   go_meet
   case rel => exact ⟨_, (t197), (t198), (by first | rfl | (simp; done) | (simp [*]; done)), (by first | rfl | (simp; done) | (simp [*]; done)), H', ⟨by first | omega | exact Nat.le_refl _⟩, ⟨kb BK183⟩, ⟨kb BK184⟩, ⟨kb BK185⟩, ⟨kb BK188⟩, ⟨kb BK193⟩, ⟨kb BK194⟩, ⟨bl HB⟩⟩
 case rest =>
  clear HC6
  try clear p2
  try clear c3
  try clear c4
  try clear c32
  try clear c32b0
  try clear c32b1
  try clear c32b2
  obtain ⟨kq, x9_5, x10_5, rfl, rfl, HA, HJ5, BK183, BK184, BK185, BK188, BK193, BK194, HB⟩ := hcut
  cases kq with
  | zero => exact absurd HA.out (by simp [ratio_lowest.j0])
  | succ kj5 =>
   have H := HA.out
   clear HA
   simp only [ratio_lowest.j0] at H
   replace H := Option.bind_eq_some_iff.mp H
   obtain ⟨⟨t199, t200⟩, A410, H⟩ := H
   replace H : (if x10_5 = true then (if t200 = true then (some (x9_5, t199, 0)) else (some (0, 0, 2))) else (some (0, 0, 2))) = some (r1, r2, r3) := H
   have A41 := Aside0.mk A410
   clear A410
   by_cases c42 : x10_5 = true
   ·subst c42
    have H1 : (if t200 = true then (some (x9_5, t199, 0)) else (some (0, 0, 2))) = some (r1, r2, r3) := by rw [if_pos rfl] at H; exact H
    clear H
    have H := H1
    clear H1
    by_cases c43 : t200 = true
    ·subst c43
     have H1 : (some (x9_5, t199, 0)) = some (r1, r2, r3) := by rw [if_pos rfl] at H; exact H
     clear H
     have H := H1
     clear H1
     simp only [Option.some.injEq, Prod.mk.injEq] at H
     obtain ⟨rfl, rfl, rfl⟩ := H
     have hnb44 := NB194_183.out
     have hnc44 := NB183_194.out
     have hnb45 := NB194_184.out
     have hnc45 := NB184_194.out
     have hnb46 := NB194_185.out
     have hnc46 := NB185_194.out
     have hnb47 := NB194_188.out
     have hnc47 := NB188_194.out
     have hnb48 := NB194_193.out
     have hnc48 := NB193_194.out
     have hcz49_0 := ck BK194 0
     have hcz49_1 := ck BK194 1
     have hfz49_0 := blk_frozen BK194.out 0
     have hfz49_1 := blk_frozen BK194.out 1
     go_wp2_with (first | ((with_reducible refine gate_callee (f := 45) rfl ?_); refine goesL_ (some 43) rfl rfl Tryd.func45 (by kernel_rfl) rfl #[.bool false, .agg #[.int .u64 t191, .int .u64 t192]] rfl gm_ ?_; (with_reducible refine (ratio_fits.calls kj5 false t191 t192 t199 true _ A41.out).mono ?_); rintro e w50 ⟨rfl, hb⟩; refine ⟨_, rfl, ?_⟩; replace BK183 := Aside0.mk (blk_below (kb BK183) hb); replace BK184 := Aside0.mk (blk_below (kb BK184) hb); replace BK185 := Aside0.mk (blk_below (kb BK185) hb); replace BK188 := Aside0.mk (blk_below (kb BK188) hb); replace BK193 := Aside0.mk (blk_below (kb BK193) hb); replace BK194 := Aside0.mk (blk_below (kb BK194) hb); replace HB := Aside0.mk (below_step (bl HB) hb); (try clear hb); (try clear hb2); (try clear hk); (try clear hi); have hnb51 := NB185_183.out; have hnc51 := NB183_185.out; have hnb52 := NB185_184.out; have hnc52 := NB184_185.out; have hnb53 := NB185_188.out; have hnc53 := NB188_185.out; have hnb54 := NB185_193.out; have hnc54 := NB193_185.out; have hcz55_0 := ck BK185 0; have hcz55_1 := ck BK185 1; have hfz55_0 := blk_frozen BK185.out 0; have hfz55_1 := blk_frozen BK185.out 1))
     refine bodyPost_ret (results_ct rfl _ _ gb185 24 #[.int .i64 x9_5, .int .i64 t199] (0, 0) _ rfl (by (with_reducible repeat (first | refine blk_drewN ?_ _ | refine blk_drew ?_ | refine blk_alloc ?_ _)); refine blk_put (cs := #[.int .i64 x9_5, .int .i64 0]) ?_ 1 _ rfl; (with_reducible repeat (first | refine blk_drewN ?_ _ | refine blk_drew ?_ | refine blk_alloc ?_ _)); refine blk_put (cs := #[.int .i64 0, .int .i64 0]) ?_ 0 _ rfl; (with_reducible repeat (first | refine blk_drewN ?_ _ | refine blk_drew ?_ | refine blk_alloc ?_ _)); exact BK185.out) Tryd.underlying24 rfl (by kernel_rfl)) rfl ?_
     exact ⟨by first | rfl | (simp [errW_none, errW_some] <;> rfl) | (simp [*, errW_none, errW_some] <;> rfl), bl HB⟩
    ·replace c43 := Bool.eq_false_iff.mpr c43
     subst c43
     have H1 : (some (0, 0, 2)) = some (r1, r2, r3) := by rw [if_neg (show ¬ (false = true) by decide)] at H; exact H
     clear H
     have H := H1
     clear H1
     simp only [Option.some.injEq, Prod.mk.injEq] at H
     obtain ⟨rfl, rfl, rfl⟩ := H
     have hnb56 := NB194_183.out
     have hnc56 := NB183_194.out
     have hnb57 := NB194_184.out
     have hnc57 := NB184_194.out
     have hnb58 := NB194_185.out
     have hnc58 := NB185_194.out
     have hnb59 := NB194_188.out
     have hnc59 := NB188_194.out
     have hnb60 := NB194_193.out
     have hnc60 := NB193_194.out
     have hcz61_0 := ck BK194 0
     have hcz61_1 := ck BK194 1
     have hfz61_0 := blk_frozen BK194.out 0
     have hfz61_1 := blk_frozen BK194.out 1
     go_wp2_with (first | ((with_reducible refine gate_callee (f := 45) rfl ?_); refine goesL_ (some 43) rfl rfl Tryd.func45 (by kernel_rfl) rfl #[.bool false, .agg #[.int .u64 t191, .int .u64 t192]] rfl gm_ ?_; (with_reducible refine (ratio_fits.calls kj5 false t191 t192 t199 false _ A41.out).mono ?_); rintro e w62 ⟨rfl, hb⟩; refine ⟨_, rfl, ?_⟩; replace BK183 := Aside0.mk (blk_below (kb BK183) hb); replace BK184 := Aside0.mk (blk_below (kb BK184) hb); replace BK185 := Aside0.mk (blk_below (kb BK185) hb); replace BK188 := Aside0.mk (blk_below (kb BK188) hb); replace BK193 := Aside0.mk (blk_below (kb BK193) hb); replace BK194 := Aside0.mk (blk_below (kb BK194) hb); replace HB := Aside0.mk (below_step (bl HB) hb); (try clear hb); (try clear hb2); (try clear hk); (try clear hi); have hnb63 := NB185_183.out; have hnc63 := NB183_185.out; have hnb64 := NB185_184.out; have hnc64 := NB184_185.out; have hnb65 := NB185_188.out; have hnc65 := NB188_185.out; have hnb66 := NB185_193.out; have hnc66 := NB193_185.out; have hcz67_0 := ck BK185 0; have hcz67_1 := ck BK185 1; have hfz67_0 := blk_frozen BK185.out 0; have hfz67_1 := blk_frozen BK185.out 1))
     refine bodyPost_ret (results_ct rfl _ _ gb185 24 #[.int .i64 0, .int .i64 0] (0, 0) _ rfl (by (with_reducible repeat (first | refine blk_drewN ?_ _ | refine blk_drew ?_ | refine blk_alloc ?_ _)); refine blk_put (cs := #[.int .i64 0, .int .i64 0]) ?_ 1 _ rfl; (with_reducible repeat (first | refine blk_drewN ?_ _ | refine blk_drew ?_ | refine blk_alloc ?_ _)); refine blk_put (cs := #[.int .i64 0, .int .i64 0]) ?_ 0 _ rfl; (with_reducible repeat (first | refine blk_drewN ?_ _ | refine blk_drew ?_ | refine blk_alloc ?_ _)); exact BK185.out) Tryd.underlying24 rfl (by kernel_rfl)) rfl ?_
     exact ⟨by first | rfl | (simp [errW_none, errW_some] <;> rfl) | (simp [*, errW_none, errW_some] <;> rfl), bl HB⟩
   ·replace c42 := Bool.eq_false_iff.mpr c42
    subst c42
    have H1 : (some (0, 0, 2)) = some (r1, r2, r3) := by rw [if_neg (show ¬ (false = true) by decide)] at H; exact H
    clear H
    have H := H1
    clear H1
    simp only [Option.some.injEq, Prod.mk.injEq] at H
    obtain ⟨rfl, rfl, rfl⟩ := H
    have hnb68 := NB194_183.out
    have hnc68 := NB183_194.out
    have hnb69 := NB194_184.out
    have hnc69 := NB184_194.out
    have hnb70 := NB194_185.out
    have hnc70 := NB185_194.out
    have hnb71 := NB194_188.out
    have hnc71 := NB188_194.out
    have hnb72 := NB194_193.out
    have hnc72 := NB193_194.out
    have hcz73_0 := ck BK194 0
    have hcz73_1 := ck BK194 1
    have hfz73_0 := blk_frozen BK194.out 0
    have hfz73_1 := blk_frozen BK194.out 1
    go_wp2_with (first | ((with_reducible refine gate_callee (f := 45) rfl ?_); refine goesL_ (some 43) rfl rfl Tryd.func45 (by kernel_rfl) rfl #[.bool false, .agg #[.int .u64 t191, .int .u64 t192]] rfl gm_ ?_; (with_reducible refine (ratio_fits.calls kj5 false t191 t192 t199 t200 _ A41.out).mono ?_); rintro e w74 ⟨rfl, hb⟩; refine ⟨_, rfl, ?_⟩; replace BK183 := Aside0.mk (blk_below (kb BK183) hb); replace BK184 := Aside0.mk (blk_below (kb BK184) hb); replace BK185 := Aside0.mk (blk_below (kb BK185) hb); replace BK188 := Aside0.mk (blk_below (kb BK188) hb); replace BK193 := Aside0.mk (blk_below (kb BK193) hb); replace BK194 := Aside0.mk (blk_below (kb BK194) hb); replace HB := Aside0.mk (below_step (bl HB) hb); (try clear hb); (try clear hb2); (try clear hk); (try clear hi); have hnb75 := NB185_183.out; have hnc75 := NB183_185.out; have hnb76 := NB185_184.out; have hnc76 := NB184_185.out; have hnb77 := NB185_188.out; have hnc77 := NB188_185.out; have hnb78 := NB185_193.out; have hnc78 := NB193_185.out; have hcz79_0 := ck BK185 0; have hcz79_1 := ck BK185 1; have hfz79_0 := blk_frozen BK185.out 0; have hfz79_1 := blk_frozen BK185.out 1))
    refine bodyPost_ret (results_ct rfl _ _ gb185 24 #[.int .i64 0, .int .i64 0] (0, 0) _ rfl (by (with_reducible repeat (first | refine blk_drewN ?_ _ | refine blk_drew ?_ | refine blk_alloc ?_ _)); refine blk_put (cs := #[.int .i64 0, .int .i64 0]) ?_ 1 _ rfl; (with_reducible repeat (first | refine blk_drewN ?_ _ | refine blk_drew ?_ | refine blk_alloc ?_ _)); refine blk_put (cs := #[.int .i64 0, .int .i64 0]) ?_ 0 _ rfl; (with_reducible repeat (first | refine blk_drewN ?_ _ | refine blk_drew ?_ | refine blk_alloc ?_ _)); exact BK185.out) Tryd.underlying24 rfl (by kernel_rfl)) rfl ?_
    exact ⟨by first | rfl | (simp [errW_none, errW_some] <;> rfl) | (simp [*, errW_none, errW_some] <;> rfl), bl HB⟩

end Go.Proofs.YtglcjhjmncolpaaDoor.Q
