-- Written for this claim by a program of the session (wip/print2). Not trusted: Lean checks it.
import Derived.Test.YtglcjhjmncolpaaDoorQx0
import Derived.Test.YtglcjhjmncolpaaDoorQx3
import Derived.Test.YtglcjhjmncolpaaDoorQx4
import Derived.Test.YtglcjhjmncolpaaDoorQx6
namespace Go.Proofs.YtglcjhjmncolpaaDoor.Q
open Go.RowKit Go.Proofs.YtglcjhjmncolpaaDoorW.PrintWords Go.Proofs.YtglcjhjmncolpaaDoorW.PrintLast Go.Proofs.YtglcjhjmncolpaaDoorW.PrintMore
attribute [local go_sem] max2_int min2_int max_two min_two max_three min_three max_four min_four   -- for this text's walks alone
set_option linter.unusedVariables false
set_option linter.unusedSimpArgs false

/-! ### ratio_part: function 44 -/
def ratio_part.l0 : Nat → Int → Int → Int → Int → Int → Int → Int → Option (Int × Int)
 | 0, _, _, _, _, _, _, _ => none
 | k + 1, x9, x166000, x166001, x167000, x167001, x174000, x174001 => if x9 ≥ 0 then ((wide_Shift.f k x167000 x167001 x9).bind fun bt174 => (if bt174.2.2 = 0 then ((wide_Cmp.f k x166000 x166001 bt174.1 bt174.2.1).bind fun t178 => (if t178 ≥ 0 then ((wide_Sub.f x166000 x166001 bt174.1 bt174.2.1).bind fun bt179 => (if 0 ≤ x9 then (ratio_part.l0 k (wrap64 (x9 - 1)) bt179.1 bt179.2.1 x167000 x167001 x174000 (Go.bits .or .u64 x174001 (shl .u64 1 x9))) else (none))) else (ratio_part.l0 k (wrap64 (x9 - 1)) x166000 x166001 x167000 x167001 x174000 x174001))) else (ratio_part.l0 k (wrap64 (x9 - 1)) x166000 x166001 x167000 x167001 x174000 x174001))) else (some (x174000, x174001))
def ratio_part.f (k : Nat) (a0_0 : Int) (a0_1 : Int) (a1_0 : Int) (a1_1 : Int) : Option (Int × Int) := if a1_0 = 0 then ((wide_Div.f k a0_0 a0_1 a1_1).bind fun bt168 => (some (bt168.1, bt168.2.1))) else (ratio_part.l0 k 63 a0_0 a0_1 a1_0 a1_1 0 0)
theorem ratio_part.mono_l : ∀ k, (∀ y0 y1 y2 y3 y4 y5 y6, LeO (ratio_part.l0 k y0 y1 y2 y3 y4 y5 y6) (ratio_part.l0 (k + 1) y0 y1 y2 y3 y4 y5 y6))
 | 0 => fun _ _ _ _ _ _ _ r h => by simp [ratio_part.l0] at h
 | k + 1 => by
  have ih0 := ratio_part.mono_l k
  ·intro y0 y1 y2 y3 y4 y5 y6
   unfold ratio_part.l0
   repeat' first
   | (with_reducible exact ih0 _ _ _ _ _ _ _)
   | (with_reducible exact wide_Cmp.mono _ _ _ _ _)
   | (with_reducible exact wide_Div.mono _ _ _ _)
   | (with_reducible exact wide_Shift.mono _ _ _ _)
   | (with_reducible exact LeO.refl _)
   | (with_reducible exact LeO.none _)
   | (with_reducible refine LeO.ite ?_ ?_)
   | (with_reducible refine LeO.bind ?_ (fun _ => ?_))
   | exact ih0 _ _ _ _ _ _ _
   | exact wide_Cmp.mono _ _ _ _ _
   | exact wide_Div.mono _ _ _ _
   | exact wide_Shift.mono _ _ _ _
   | exact LeO.none _
   | refine LeO.ite ?_ ?_
   | refine LeO.bind ?_ (fun _ => ?_)
theorem ratio_part.mono : ∀ a0 a1 a2 a3 k, LeO (ratio_part.f k a0 a1 a2 a3) (ratio_part.f (k + 1) a0 a1 a2 a3) := by
 intro a0 a1 a2 a3 k
 have ih0 := ratio_part.mono_l k
 unfold ratio_part.f
 repeat' first
   | (with_reducible exact ih0 _ _ _ _ _ _ _)
   | (with_reducible exact wide_Cmp.mono _ _ _ _ _)
   | (with_reducible exact wide_Div.mono _ _ _ _)
   | (with_reducible exact wide_Shift.mono _ _ _ _)
   | (with_reducible exact LeO.refl _)
   | (with_reducible exact LeO.none _)
   | (with_reducible refine LeO.ite ?_ ?_)
   | (with_reducible refine LeO.bind ?_ (fun _ => ?_))
   | exact ih0 _ _ _ _ _ _ _
   | exact wide_Cmp.mono _ _ _ _ _
   | exact wide_Div.mono _ _ _ _
   | exact wide_Shift.mono _ _ _ _
   | exact LeO.none _
   | refine LeO.ite ?_ ?_
   | refine LeO.bind ?_ (fun _ => ?_)
set_option maxHeartbeats 8000000 in
set_option maxRecDepth 100000 in
theorem ratio_part.calls (k : Nat) (a0_0 : Int) (a0_1 : Int) (a1_0 : Int) (a1_1 : Int) (r1 : Int) (r2 : Int) (w : World) (h : ratio_part.f k a0_0 a0_1 a1_0 a1_1 = some (r1, r2)) :
  Calls Tryd.prog 44 #[.agg #[.int .u64 a0_0, .int .u64 a0_1], .agg #[.int .u64 a1_0, .int .u64 a1_1]] w fun e w' => e = .returned (.agg #[.int .u64 r1, .int .u64 r2]) ∧ Below w.heap.size w w' := by
 have hu47 := Tryd.underlying47
 have HB := Aside0.mk (Below.refl w.heap.size w)
 have H : (if a1_0 = 0 then ((wide_Div.f k a0_0 a0_1 a1_1).bind fun bt168 => (some (bt168.1, bt168.2.1))) else (ratio_part.l0 k 63 a0_0 a0_1 a1_0 a1_1 0 0)) = some (r1, r2) := h
 clear h
 by_cases c3 : a1_0 = 0
 ·rw [if_pos c3] at H
  have c3b0 : (a1_0 == 0) = true := beq_iff_eq.mpr c3
  have c3b1 : (a1_0 != 0) = false := bne_eq_false_iff_eq.mpr c3
  clear c3
  replace H := Option.bind_eq_some_iff.mp H
  obtain ⟨⟨t168, t169, t170, t171⟩, A40, H⟩ := H
  replace H : (some (t168, t169)) = some (r1, r2) := H
  have A4 := Aside0.mk A40
  clear A40
  simp only [Option.some.injEq, Prod.mk.injEq] at H
  obtain ⟨rfl, rfl⟩ := H
  go_enter Tryd.func44, Tryd.ntmps44
  go_wp2_with (first | ((with_reducible refine gate_dst (N := 2) rfl ?_); refine box_event ?hg (N := 2) ?hd (cs := #[.int .u64 a0_0, .int .u64 a0_1]) (t := 47) ?hr ?_; (case hd => rfl); (case hg => rfl); (case hr => exact gs_); intro gb165 hg w5 hbox hb; have BK165 := Aside0.mk (hbox); have GW165 := Aside0.mk ((by rw [hg]; exact (below_size (bl HB)) : w.heap.size ≤ gb165)); have GE165 := Aside0.mk ((by rw [hg]; exact (below_size (bl HB)) : w.heap.size ≤ gb165)); replace HB := Aside0.mk (below_step (bl HB) hb); clear hb hbox hg) | ((with_reducible refine gate_dst (N := 3) rfl ?_); refine box_event ?hg (N := 3) ?hd (cs := #[.int .u64 a1_0, .int .u64 a1_1]) (t := 47) ?hr ?_; (case hd => rfl); (case hg => rfl); (case hr => exact gs_); intro gb166 hg w6 hbox hb; have BK166 := Aside0.mk (hbox); have GW166 := Aside0.mk ((by rw [hg]; exact (below_size (bl HB)) : w.heap.size ≤ gb166)); have GE166 := Aside0.mk ((by rw [hg]; exact (below_size (bl HB)) : w.heap.size ≤ gb166)); replace HB := Aside0.mk (below_step (bl HB) hb); have NB165_166 := Aside0.mk ((by rw [hg]; exact Nat.ne_of_lt (blk_lt (kb BK165)) : gb165 ≠ gb166)); have NB166_165 := Aside0.mk ((by rw [hg]; exact Nat.ne_of_gt (blk_lt (kb BK165)) : gb166 ≠ gb165)); replace BK165 := Aside0.mk (blk_below (kb BK165) hb); clear hb hbox hg) | ((with_reducible refine gate_dst (N := 4) rfl ?_); refine box_event ?hg (N := 4) ?hd (cs := #[.int .u64 0, .int .u64 0]) (t := 47) ?hr ?_; (case hd => rfl); (case hg => rfl); (case hr => exact gs_); intro gb167 hg w7 hbox hb; have BK167 := Aside0.mk (hbox); have GW167 := Aside0.mk ((by rw [hg]; exact (below_size (bl HB)) : w.heap.size ≤ gb167)); have GE167 := Aside0.mk ((by rw [hg]; exact (below_size (bl HB)) : w.heap.size ≤ gb167)); replace HB := Aside0.mk (below_step (bl HB) hb); have NB165_167 := Aside0.mk ((by rw [hg]; exact Nat.ne_of_lt (blk_lt (kb BK165)) : gb165 ≠ gb167)); have NB167_165 := Aside0.mk ((by rw [hg]; exact Nat.ne_of_gt (blk_lt (kb BK165)) : gb167 ≠ gb165)); replace BK165 := Aside0.mk (blk_below (kb BK165) hb); have NB166_167 := Aside0.mk ((by rw [hg]; exact Nat.ne_of_lt (blk_lt (kb BK166)) : gb166 ≠ gb167)); have NB167_166 := Aside0.mk ((by rw [hg]; exact Nat.ne_of_gt (blk_lt (kb BK166)) : gb167 ≠ gb166)); replace BK166 := Aside0.mk (blk_below (kb BK166) hb); clear hb hbox hg; have hnb8 := NB166_165.out; have hnc8 := NB165_166.out; have hnb9 := NB166_167.out; have hnc9 := NB167_166.out; have hcz10_0 := ck BK166 0; have hcz10_1 := ck BK166 1; have hfz10_0 := blk_frozen BK166.out 0; have hfz10_1 := blk_frozen BK166.out 1; have hnb11 := NB165_167.out; have hnc11 := NB167_165.out; have hcz12_0 := ck BK165 0; have hcz12_1 := ck BK165 1; have hfz12_0 := blk_frozen BK165.out 0; have hfz12_1 := blk_frozen BK165.out 1) | ((with_reducible refine gate_callee (f := 64) rfl ?_); refine goesL_ (some 19) rfl rfl Tryd.func64 (by kernel_rfl) rfl #[.agg #[.int .u64 a0_0, .int .u64 a0_1], .int .u64 a1_1] rfl gm_ ?_; (with_reducible refine (wide_Div.calls k a0_0 a0_1 a1_1 t168 t169 t170 t171 _ A4.out).mono ?_); rintro e w13 ⟨rfl, hb⟩; refine ⟨_, rfl, ?_⟩; replace BK165 := Aside0.mk (blk_below (kb BK165) hb); replace BK166 := Aside0.mk (blk_below (kb BK166) hb); replace BK167 := Aside0.mk (blk_below (kb BK167) hb); replace HB := Aside0.mk (below_step (bl HB) hb); (try clear hb); (try clear hb2); (try clear hk); (try clear hi)) | ((with_reducible refine gate_dst (N := 5) rfl ?_); refine box_event ?hg (N := 5) ?hd (cs := #[.int .u64 0, .int .u64 0]) (t := 47) ?hr ?_; (case hd => rfl); (case hg => rfl); (case hr => exact gs_); intro gb172 hg w14 hbox hb; have BK172 := Aside0.mk (hbox); have GW172 := Aside0.mk ((by rw [hg]; exact (below_size (bl HB)) : w.heap.size ≤ gb172)); have GE172 := Aside0.mk ((by rw [hg]; exact (below_size (bl HB)) : w.heap.size ≤ gb172)); replace HB := Aside0.mk (below_step (bl HB) hb); have NB165_172 := Aside0.mk ((by rw [hg]; exact Nat.ne_of_lt (blk_lt (kb BK165)) : gb165 ≠ gb172)); have NB172_165 := Aside0.mk ((by rw [hg]; exact Nat.ne_of_gt (blk_lt (kb BK165)) : gb172 ≠ gb165)); replace BK165 := Aside0.mk (blk_below (kb BK165) hb); have NB166_172 := Aside0.mk ((by rw [hg]; exact Nat.ne_of_lt (blk_lt (kb BK166)) : gb166 ≠ gb172)); have NB172_166 := Aside0.mk ((by rw [hg]; exact Nat.ne_of_gt (blk_lt (kb BK166)) : gb172 ≠ gb166)); replace BK166 := Aside0.mk (blk_below (kb BK166) hb); have NB167_172 := Aside0.mk ((by rw [hg]; exact Nat.ne_of_lt (blk_lt (kb BK167)) : gb167 ≠ gb172)); have NB172_167 := Aside0.mk ((by rw [hg]; exact Nat.ne_of_gt (blk_lt (kb BK167)) : gb172 ≠ gb167)); replace BK167 := Aside0.mk (blk_below (kb BK167) hb); clear hb hbox hg; have hnb15 := NB172_165.out; have hnc15 := NB165_172.out; have hnb16 := NB172_166.out; have hnc16 := NB166_172.out; have hnb17 := NB172_167.out; have hnc17 := NB167_172.out; have hcz18_0 := ck BK172 0; have hcz18_1 := ck BK172 1; have hfz18_0 := blk_frozen BK172.out 0; have hfz18_1 := blk_frozen BK172.out 1; have hcz19_0 := ck BK167 0; have hcz19_1 := ck BK167 1; have hfz19_0 := blk_frozen BK167.out 0; have hfz19_1 := blk_frozen BK167.out 1))
  refine bodyPost_ret (results_cell_row rfl _ _ gb167 47 #[.int .u64 t168, .int .u64 t169] (0, 0) _ rfl (by (with_reducible repeat (first | refine blk_drewN ?_ _ | refine blk_drew ?_ | refine blk_alloc ?_ _)); refine blk_put (cs := #[.int .u64 t168, .int .u64 0]) ?_ 1 _ rfl; (with_reducible repeat (first | refine blk_drewN ?_ _ | refine blk_drew ?_ | refine blk_alloc ?_ _)); refine blk_put (cs := #[.int .u64 0, .int .u64 0]) ?_ 0 _ rfl; (with_reducible repeat (first | refine blk_drewN ?_ _ | refine blk_drew ?_ | refine blk_alloc ?_ _)); refine blk_far ?_ NB167_172.out _; (with_reducible repeat (first | refine blk_drewN ?_ _ | refine blk_drew ?_ | refine blk_alloc ?_ _)); refine blk_far ?_ NB167_172.out _; (with_reducible repeat (first | refine blk_drewN ?_ _ | refine blk_drew ?_ | refine blk_alloc ?_ _)); exact BK167.out) Tryd.underlying47 rfl (by kernel_rfl)) rfl ?_
  exact ⟨by first | rfl | (simp [errW_none, errW_some] <;> rfl) | (simp [*, errW_none, errW_some] <;> rfl), bl HB⟩
 ·rw [if_neg c3] at H
  have c3b0 : (a1_0 == 0) = false := beq_eq_false_iff_ne.mpr c3
  have c3b1 : (a1_0 != 0) = true := bne_iff_ne.mpr c3
  have H' := Aside0.mk H
  clear H
  go_enter Tryd.func44, Tryd.ntmps44
  go_wp2_with (first | ((with_reducible refine gate_dst (N := 2) rfl ?_); refine box_event ?hg (N := 2) ?hd (cs := #[.int .u64 a0_0, .int .u64 a0_1]) (t := 47) ?hr ?_; (case hd => rfl); (case hg => rfl); (case hr => exact gs_); intro gb165 hg w20 hbox hb; have BK165 := Aside0.mk (hbox); have GW165 := Aside0.mk ((by rw [hg]; exact (below_size (bl HB)) : w.heap.size ≤ gb165)); have GE165 := Aside0.mk ((by rw [hg]; exact (below_size (bl HB)) : w.heap.size ≤ gb165)); replace HB := Aside0.mk (below_step (bl HB) hb); clear hb hbox hg) | ((with_reducible refine gate_dst (N := 3) rfl ?_); refine box_event ?hg (N := 3) ?hd (cs := #[.int .u64 a1_0, .int .u64 a1_1]) (t := 47) ?hr ?_; (case hd => rfl); (case hg => rfl); (case hr => exact gs_); intro gb166 hg w21 hbox hb; have BK166 := Aside0.mk (hbox); have GW166 := Aside0.mk ((by rw [hg]; exact (below_size (bl HB)) : w.heap.size ≤ gb166)); have GE166 := Aside0.mk ((by rw [hg]; exact (below_size (bl HB)) : w.heap.size ≤ gb166)); replace HB := Aside0.mk (below_step (bl HB) hb); have NB165_166 := Aside0.mk ((by rw [hg]; exact Nat.ne_of_lt (blk_lt (kb BK165)) : gb165 ≠ gb166)); have NB166_165 := Aside0.mk ((by rw [hg]; exact Nat.ne_of_gt (blk_lt (kb BK165)) : gb166 ≠ gb165)); replace BK165 := Aside0.mk (blk_below (kb BK165) hb); clear hb hbox hg) | ((with_reducible refine gate_dst (N := 4) rfl ?_); refine box_event ?hg (N := 4) ?hd (cs := #[.int .u64 0, .int .u64 0]) (t := 47) ?hr ?_; (case hd => rfl); (case hg => rfl); (case hr => exact gs_); intro gb167 hg w22 hbox hb; have BK167 := Aside0.mk (hbox); have GW167 := Aside0.mk ((by rw [hg]; exact (below_size (bl HB)) : w.heap.size ≤ gb167)); have GE167 := Aside0.mk ((by rw [hg]; exact (below_size (bl HB)) : w.heap.size ≤ gb167)); replace HB := Aside0.mk (below_step (bl HB) hb); have NB165_167 := Aside0.mk ((by rw [hg]; exact Nat.ne_of_lt (blk_lt (kb BK165)) : gb165 ≠ gb167)); have NB167_165 := Aside0.mk ((by rw [hg]; exact Nat.ne_of_gt (blk_lt (kb BK165)) : gb167 ≠ gb165)); replace BK165 := Aside0.mk (blk_below (kb BK165) hb); have NB166_167 := Aside0.mk ((by rw [hg]; exact Nat.ne_of_lt (blk_lt (kb BK166)) : gb166 ≠ gb167)); have NB167_166 := Aside0.mk ((by rw [hg]; exact Nat.ne_of_gt (blk_lt (kb BK166)) : gb167 ≠ gb166)); replace BK166 := Aside0.mk (blk_below (kb BK166) hb); clear hb hbox hg; have hnb23 := NB166_165.out; have hnc23 := NB165_166.out; have hnb24 := NB166_167.out; have hnc24 := NB167_166.out; have hcz25_0 := ck BK166 0; have hcz25_1 := ck BK166 1; have hfz25_0 := blk_frozen BK166.out 0; have hfz25_1 := blk_frozen BK166.out 1) | ((with_reducible refine gate_dst (N := 8) rfl ?_); refine box_event ?hg (N := 8) ?hd (cs := #[.int .u64 0, .int .u64 0]) (t := 47) ?hr ?_; (case hd => rfl); (case hg => rfl); (case hr => exact gs_); intro gb173 hg w26 hbox hb; have BK173 := Aside0.mk (hbox); have GW173 := Aside0.mk ((by rw [hg]; exact (below_size (bl HB)) : w.heap.size ≤ gb173)); have GE173 := Aside0.mk ((by rw [hg]; exact (below_size (bl HB)) : w.heap.size ≤ gb173)); replace HB := Aside0.mk (below_step (bl HB) hb); have NB165_173 := Aside0.mk ((by rw [hg]; exact Nat.ne_of_lt (blk_lt (kb BK165)) : gb165 ≠ gb173)); have NB173_165 := Aside0.mk ((by rw [hg]; exact Nat.ne_of_gt (blk_lt (kb BK165)) : gb173 ≠ gb165)); replace BK165 := Aside0.mk (blk_below (kb BK165) hb); have NB166_173 := Aside0.mk ((by rw [hg]; exact Nat.ne_of_lt (blk_lt (kb BK166)) : gb166 ≠ gb173)); have NB173_166 := Aside0.mk ((by rw [hg]; exact Nat.ne_of_gt (blk_lt (kb BK166)) : gb173 ≠ gb166)); replace BK166 := Aside0.mk (blk_below (kb BK166) hb); have NB167_173 := Aside0.mk ((by rw [hg]; exact Nat.ne_of_lt (blk_lt (kb BK167)) : gb167 ≠ gb173)); have NB173_167 := Aside0.mk ((by rw [hg]; exact Nat.ne_of_gt (blk_lt (kb BK167)) : gb173 ≠ gb167)); replace BK167 := Aside0.mk (blk_below (kb BK167) hb); clear hb hbox hg))
  go_loopg [9] k (fun kq v9 w' => ∃ (x9_1 : Int) (x166000_1 : Int) (x166001_1 : Int) (x174001_1 : Int), v9 = .int .i64 x9_1 ∧ Aside0 (ratio_part.l0 kq x9_1 x166000_1 x166001_1 a1_0 a1_1 0 x174001_1 = some (r1, r2)) ∧ Aside0 (kq ≤ k) ∧ Aside0 (w'.heap[gb165]? = some (.cells #[.int .u64 x166000_1, .int .u64 x166001_1] 47 (0, 0))) ∧ Aside0 (w'.heap[gb166]? = some (.cells #[.int .u64 a1_0, .int .u64 a1_1] 47 (0, 0))) ∧ Aside0 (w'.heap[gb167]? = some (.cells #[.int .u64 0, .int .u64 0] 47 (0, 0))) ∧ Aside0 (w'.heap[gb173]? = some (.cells #[.int .u64 0, .int .u64 x174001_1] 47 (0, 0))) ∧ Aside0 (Below w.heap.size w w'))
  case atStart => exact ⟨(63), (a0_0), (a0_1), (0), (by first | rfl | (simp; done) | (simp [*]; done)), H', ⟨Nat.le_refl _⟩, ⟨kb BK165⟩, ⟨kb BK166⟩, ⟨kb BK167⟩, ⟨kb BK173⟩, ⟨bl HB⟩⟩
  case round =>
   clear H'
   try clear c1
   try clear c2
   try clear p2
   try clear c3
   try clear c3b0
   try clear c3b1
   try clear c4
   try clear c6
   try clear c8
   try clear c9
   try clear c11
   try clear c15
   try clear c16
   try clear c17
   try clear c23
   try clear c24
   try clear hcz10_0
   try clear hcz10_1
   try clear hcz12_0
   try clear hcz12_1
   try clear hcz18_0
   try clear hcz18_1
   try clear hcz19_0
   try clear hcz19_1
   try clear hcz25_0
   try clear hcz25_1
   try clear hfz10_0
   try clear hfz10_1
   try clear hfz12_0
   try clear hfz12_1
   try clear hfz18_0
   try clear hfz18_1
   try clear hfz19_0
   try clear hfz19_1
   try clear hfz25_0
   try clear hfz25_1
   obtain ⟨x9_1, x166000_1, x166001_1, x174001_1, rfl, HA, HK1, BK165, BK166, BK167, BK173, HB⟩ := hrel
   cases gk with
   | zero => exact absurd HA.out (by simp [ratio_part.l0])
   | succ k1 =>
    have H := HA.out
    clear HA
    simp only [ratio_part.l0] at H
    by_cases c27 : x9_1 ≥ 0
    ·rw [if_pos c27] at H
     have c27b0 : decide (0 ≤ x9_1) = true := decide_eq_true c27
     clear c27
     replace H := Option.bind_eq_some_iff.mp H
     obtain ⟨⟨t174, t175, t176⟩, A280, H⟩ := H
     replace H : (if t176 = 0 then ((wide_Cmp.f k1 x166000_1 x166001_1 t174 t175).bind fun t178 => (if t178 ≥ 0 then ((wide_Sub.f x166000_1 x166001_1 t174 t175).bind fun bt179 => (if 0 ≤ x9_1 then (ratio_part.l0 k1 (wrap64 (x9_1 - 1)) bt179.1 bt179.2.1 a1_0 a1_1 0 (Go.bits .or .u64 x174001_1 (shl .u64 1 x9_1))) else (none))) else (ratio_part.l0 k1 (wrap64 (x9_1 - 1)) x166000_1 x166001_1 a1_0 a1_1 0 x174001_1))) else (ratio_part.l0 k1 (wrap64 (x9_1 - 1)) x166000_1 x166001_1 a1_0 a1_1 0 x174001_1)) = some (r1, r2) := H
     have A28 := Aside0.mk A280
     clear A280
     by_cases c29 : t176 = 0
     ·rw [if_pos c29] at H
      have c29b0 : (t176 == 0) = true := beq_iff_eq.mpr c29
      have c29b1 : (t176 != 0) = false := bne_eq_false_iff_eq.mpr c29
      clear c29
      replace H := Option.bind_eq_some_iff.mp H
      obtain ⟨t178, A300, H⟩ := H
      replace H : (if t178 ≥ 0 then ((wide_Sub.f x166000_1 x166001_1 t174 t175).bind fun bt179 => (if 0 ≤ x9_1 then (ratio_part.l0 k1 (wrap64 (x9_1 - 1)) bt179.1 bt179.2.1 a1_0 a1_1 0 (Go.bits .or .u64 x174001_1 (shl .u64 1 x9_1))) else (none))) else (ratio_part.l0 k1 (wrap64 (x9_1 - 1)) x166000_1 x166001_1 a1_0 a1_1 0 x174001_1)) = some (r1, r2) := H
      have A30 := Aside0.mk A300
      clear A300
      by_cases c31 : t178 ≥ 0
      ·rw [if_pos c31] at H
       have c31b0 : decide (0 ≤ t178) = true := decide_eq_true c31
       clear c31
       replace H := Option.bind_eq_some_iff.mp H
       obtain ⟨⟨t179, t180, t181⟩, A320, H⟩ := H
       replace H : (if 0 ≤ x9_1 then (ratio_part.l0 k1 (wrap64 (x9_1 - 1)) t179 t180 a1_0 a1_1 0 (Go.bits .or .u64 x174001_1 (shl .u64 1 x9_1))) else (none)) = some (r1, r2) := H
       have A32 := Aside0.mk A320
       clear A320
       by_cases c33 : 0 ≤ x9_1
       ·rw [if_pos c33] at H
        have c33b0 := eq_true c33
        have c33b1 : decide (0 ≤ x9_1) = true := decide_eq_true c33
        clear c33
        obtain ⟨ji34, hji34⟩ : ∃ j_ : Int, (shl .u64 1 x9_1) = j_ := ⟨_, rfl⟩
        replace H : (ratio_part.l0 k1 (wrap64 (x9_1 - 1)) t179 t180 a1_0 a1_1 0 (Go.bits .or .u64 x174001_1 (ji34))) = some (r1, r2) := by first | (rw [hji34] at H; exact H) | (simp only [hji34] at H ⊢; exact H)
        (try rw [hji34] at A28)
        (try rw [hji34] at A30)
        (try rw [hji34] at A32)
        have hji34_ : (IntKind.u64.wrap (1 * 2 ^ min x9_1.toNat 64)) = ji34 := hji34
        have hji34z : x9_1 ≤ 64 → (IntKind.u64.wrap (1 * 2 ^ x9_1.toNat)) = ji34 := shl_small hji34
        have hji34u : (IntKind.u64.wrap (2 ^ min x9_1.toNat 64)) = ji34 := by have h_ := hji34_; rw [Int.one_mul] at h_; exact h_
        have hji34v : x9_1 ≤ 64 → (IntKind.u64.wrap (2 ^ x9_1.toNat)) = ji34 := fun hle_ => by have h_ := hji34z hle_; rw [Int.one_mul] at h_; exact h_
        have H' := Aside0.mk H
        clear H
        have hnb35 := NB166_165.out
        have hnc35 := NB165_166.out
        have hnb36 := NB166_167.out
        have hnc36 := NB167_166.out
        have hnb37 := NB166_173.out
        have hnc37 := NB173_166.out
        have hcz38_0 := ck BK166 0
        have hcz38_1 := ck BK166 1
        have hfz38_0 := blk_frozen BK166.out 0
        have hfz38_1 := blk_frozen BK166.out 1
        try go_wp2_with (first | ((with_reducible refine gate_callee (f := 48) rfl ?_); refine goesL_ (some 31) rfl rfl Tryd.func48 (by kernel_rfl) rfl #[.agg #[.int .u64 a1_0, .int .u64 a1_1], .int .i64 x9_1] rfl gm_ ?_; (with_reducible refine (wide_Shift.calls k1 a1_0 a1_1 x9_1 t174 t175 t176 _ A28.out).mono ?_); rintro e w39 ⟨rfl, hb⟩; refine ⟨_, rfl, ?_⟩; replace BK165 := Aside0.mk (blk_below (kb BK165) hb); replace BK166 := Aside0.mk (blk_below (kb BK166) hb); replace BK167 := Aside0.mk (blk_below (kb BK167) hb); replace BK173 := Aside0.mk (blk_below (kb BK173) hb); replace HB := Aside0.mk (below_step (bl HB) hb); (try clear hb); (try clear hb2); (try clear hk); (try clear hi)) | ((with_reducible refine gate_dst (N := 10) rfl ?_); refine box_event ?hg (N := 10) ?hd (cs := #[.int .u64 0, .int .u64 0]) (t := 47) ?hr ?_; (case hd => rfl); (case hg => rfl); (case hr => exact gs_); intro gb177 hg w40 hbox hb; have BK177 := Aside0.mk (hbox); have GW177 := Aside0.mk ((by rw [hg]; exact (below_size (bl HB)) : w.heap.size ≤ gb177)); have GE177 := Aside0.mk ((by rw [hg]; exact (below_size (bl HB)) : w.heap.size ≤ gb177)); replace HB := Aside0.mk (below_step (bl HB) hb); have NB165_177 := Aside0.mk ((by rw [hg]; exact Nat.ne_of_lt (blk_lt (kb BK165)) : gb165 ≠ gb177)); have NB177_165 := Aside0.mk ((by rw [hg]; exact Nat.ne_of_gt (blk_lt (kb BK165)) : gb177 ≠ gb165)); replace BK165 := Aside0.mk (blk_below (kb BK165) hb); have NB166_177 := Aside0.mk ((by rw [hg]; exact Nat.ne_of_lt (blk_lt (kb BK166)) : gb166 ≠ gb177)); have NB177_166 := Aside0.mk ((by rw [hg]; exact Nat.ne_of_gt (blk_lt (kb BK166)) : gb177 ≠ gb166)); replace BK166 := Aside0.mk (blk_below (kb BK166) hb); have NB167_177 := Aside0.mk ((by rw [hg]; exact Nat.ne_of_lt (blk_lt (kb BK167)) : gb167 ≠ gb177)); have NB177_167 := Aside0.mk ((by rw [hg]; exact Nat.ne_of_gt (blk_lt (kb BK167)) : gb177 ≠ gb167)); replace BK167 := Aside0.mk (blk_below (kb BK167) hb); have NB173_177 := Aside0.mk ((by rw [hg]; exact Nat.ne_of_lt (blk_lt (kb BK173)) : gb173 ≠ gb177)); have NB177_173 := Aside0.mk ((by rw [hg]; exact Nat.ne_of_gt (blk_lt (kb BK173)) : gb177 ≠ gb173)); replace BK173 := Aside0.mk (blk_below (kb BK173) hb); clear hb hbox hg; have hnb41 := NB177_165.out; have hnc41 := NB165_177.out; have hnb42 := NB177_166.out; have hnc42 := NB166_177.out; have hnb43 := NB177_167.out; have hnc43 := NB167_177.out; have hnb44 := NB177_173.out; have hnc44 := NB173_177.out; have hcz45_0 := ck BK177 0; have hcz45_1 := ck BK177 1; have hfz45_0 := blk_frozen BK177.out 0; have hfz45_1 := blk_frozen BK177.out 1; have hnb46 := NB165_167.out; have hnc46 := NB167_165.out; have hnb47 := NB165_173.out; have hnc47 := NB173_165.out; have hcz48_0 := ck BK165 0; have hcz48_1 := ck BK165 1; have hfz48_0 := blk_frozen BK165.out 0; have hfz48_1 := blk_frozen BK165.out 1) | (go_at_call 34; (with_reducible refine (wide_Cmp.calls k1 x166000_1 x166001_1 t174 t175 t178 _ A30.out).mono ?_); rintro e w49 ⟨rfl, hb⟩; replace BK165 := Aside0.mk (blk_below (g := gb165) (o := .cells #[.int .u64 x166000_1, .int .u64 x166001_1] 47 (0, 0)) (by (with_reducible repeat (first | refine blk_drewN ?_ _ | refine blk_drew ?_ | refine blk_alloc ?_ _)); refine blk_far ?_ NB165_177.out _; (with_reducible repeat (first | refine blk_drewN ?_ _ | refine blk_drew ?_ | refine blk_alloc ?_ _)); refine blk_far ?_ NB165_177.out _; (with_reducible repeat (first | refine blk_drewN ?_ _ | refine blk_drew ?_ | refine blk_alloc ?_ _)); exact BK165.out) hb); replace BK166 := Aside0.mk (blk_below (g := gb166) (o := .cells #[.int .u64 a1_0, .int .u64 a1_1] 47 (0, 0)) (by (with_reducible repeat (first | refine blk_drewN ?_ _ | refine blk_drew ?_ | refine blk_alloc ?_ _)); refine blk_far ?_ NB166_177.out _; (with_reducible repeat (first | refine blk_drewN ?_ _ | refine blk_drew ?_ | refine blk_alloc ?_ _)); refine blk_far ?_ NB166_177.out _; (with_reducible repeat (first | refine blk_drewN ?_ _ | refine blk_drew ?_ | refine blk_alloc ?_ _)); exact BK166.out) hb); replace BK167 := Aside0.mk (blk_below (g := gb167) (o := .cells #[.int .u64 0, .int .u64 0] 47 (0, 0)) (by (with_reducible repeat (first | refine blk_drewN ?_ _ | refine blk_drew ?_ | refine blk_alloc ?_ _)); refine blk_far ?_ NB167_177.out _; (with_reducible repeat (first | refine blk_drewN ?_ _ | refine blk_drew ?_ | refine blk_alloc ?_ _)); refine blk_far ?_ NB167_177.out _; (with_reducible repeat (first | refine blk_drewN ?_ _ | refine blk_drew ?_ | refine blk_alloc ?_ _)); exact BK167.out) hb); replace BK173 := Aside0.mk (blk_below (g := gb173) (o := .cells #[.int .u64 0, .int .u64 x174001_1] 47 (0, 0)) (by (with_reducible repeat (first | refine blk_drewN ?_ _ | refine blk_drew ?_ | refine blk_alloc ?_ _)); refine blk_far ?_ NB173_177.out _; (with_reducible repeat (first | refine blk_drewN ?_ _ | refine blk_drew ?_ | refine blk_alloc ?_ _)); refine blk_far ?_ NB173_177.out _; (with_reducible repeat (first | refine blk_drewN ?_ _ | refine blk_drew ?_ | refine blk_alloc ?_ _)); exact BK173.out) hb); replace BK177 := Aside0.mk (blk_below (g := gb177) (o := .cells #[.int .u64 t174, .int .u64 t175] 47 (0, 0)) (by (with_reducible repeat (first | refine blk_drewN ?_ _ | refine blk_drew ?_ | refine blk_alloc ?_ _)); refine blk_put (cs := #[.int .u64 t174, .int .u64 0]) ?_ 1 _ rfl; (with_reducible repeat (first | refine blk_drewN ?_ _ | refine blk_drew ?_ | refine blk_alloc ?_ _)); refine blk_put (cs := #[.int .u64 0, .int .u64 0]) ?_ 0 _ rfl; (with_reducible repeat (first | refine blk_drewN ?_ _ | refine blk_drew ?_ | refine blk_alloc ?_ _)); exact BK177.out) hb); replace HB := Aside0.mk (below_step (bl HB) hb); (try clear hb); (try clear hb2); (try clear hk); (try clear hi); have hcz50_0 := ck BK165 0; have hcz50_1 := ck BK165 1; have hfz50_0 := blk_frozen BK165.out 0; have hfz50_1 := blk_frozen BK165.out 1; have hcz51_0 := ck BK177 0; have hcz51_1 := ck BK177 1; have hfz51_0 := blk_frozen BK177.out 0; have hfz51_1 := blk_frozen BK177.out 1) | ((with_reducible refine gate_callee (f := 49) rfl ?_); refine goesL_ (some 45) rfl rfl Tryd.func49 (by kernel_rfl) rfl #[.agg #[.int .u64 x166000_1, .int .u64 x166001_1], .agg #[.int .u64 t174, .int .u64 t175]] rfl gm_ ?_; (with_reducible refine (wide_Sub.calls x166000_1 x166001_1 t174 t175 t179 t180 t181 _ A32.out).mono ?_); rintro e w52 ⟨rfl, hb⟩; refine ⟨_, rfl, ?_⟩; replace BK165 := Aside0.mk (blk_below (kb BK165) hb); replace BK166 := Aside0.mk (blk_below (kb BK166) hb); replace BK167 := Aside0.mk (blk_below (kb BK167) hb); replace BK173 := Aside0.mk (blk_below (kb BK173) hb); replace BK177 := Aside0.mk (blk_below (kb BK177) hb); replace HB := Aside0.mk (below_step (bl HB) hb); (try clear hb); (try clear hb2); (try clear hk); (try clear hi); have hcz53_0 := ck BK165 0; have hcz53_1 := ck BK165 1; have hfz53_0 := blk_frozen BK165.out 0; have hfz53_1 := blk_frozen BK165.out 1))
        have n0_ : Aside0 (((w52.setCell ⟨gb165, 0, none⟩ (.int .u64 t179)).setCell ⟨gb165, 1, none⟩ (.int .u64 t180)).heap[gb165]? = some (.cells #[.int .u64 t179, .int .u64 t180] 47 (0, 0))) := ⟨by (with_reducible repeat (first | refine blk_drewN ?_ _ | refine blk_drew ?_ | refine blk_alloc ?_ _)); refine blk_put (cs := #[.int .u64 t179, .int .u64 x166001_1]) ?_ 1 _ rfl; (with_reducible repeat (first | refine blk_drewN ?_ _ | refine blk_drew ?_ | refine blk_alloc ?_ _)); refine blk_put (cs := #[.int .u64 x166000_1, .int .u64 x166001_1]) ?_ 0 _ rfl; (with_reducible repeat (first | refine blk_drewN ?_ _ | refine blk_drew ?_ | refine blk_alloc ?_ _)); exact BK165.out⟩
        have n1_ : Aside0 (((w52.setCell ⟨gb165, 0, none⟩ (.int .u64 t179)).setCell ⟨gb165, 1, none⟩ (.int .u64 t180)).heap[gb166]? = some (.cells #[.int .u64 a1_0, .int .u64 a1_1] 47 (0, 0))) := ⟨by (with_reducible repeat (first | refine blk_drewN ?_ _ | refine blk_drew ?_ | refine blk_alloc ?_ _)); refine blk_far ?_ NB166_165.out _; (with_reducible repeat (first | refine blk_drewN ?_ _ | refine blk_drew ?_ | refine blk_alloc ?_ _)); refine blk_far ?_ NB166_165.out _; (with_reducible repeat (first | refine blk_drewN ?_ _ | refine blk_drew ?_ | refine blk_alloc ?_ _)); exact BK166.out⟩
        have n2_ : Aside0 (((w52.setCell ⟨gb165, 0, none⟩ (.int .u64 t179)).setCell ⟨gb165, 1, none⟩ (.int .u64 t180)).heap[gb167]? = some (.cells #[.int .u64 0, .int .u64 0] 47 (0, 0))) := ⟨by (with_reducible repeat (first | refine blk_drewN ?_ _ | refine blk_drew ?_ | refine blk_alloc ?_ _)); refine blk_far ?_ NB167_165.out _; (with_reducible repeat (first | refine blk_drewN ?_ _ | refine blk_drew ?_ | refine blk_alloc ?_ _)); refine blk_far ?_ NB167_165.out _; (with_reducible repeat (first | refine blk_drewN ?_ _ | refine blk_drew ?_ | refine blk_alloc ?_ _)); exact BK167.out⟩
        have n3_ : Aside0 (((w52.setCell ⟨gb165, 0, none⟩ (.int .u64 t179)).setCell ⟨gb165, 1, none⟩ (.int .u64 t180)).heap[gb173]? = some (.cells #[.int .u64 0, .int .u64 x174001_1] 47 (0, 0))) := ⟨by (with_reducible repeat (first | refine blk_drewN ?_ _ | refine blk_drew ?_ | refine blk_alloc ?_ _)); refine blk_far ?_ NB173_165.out _; (with_reducible repeat (first | refine blk_drewN ?_ _ | refine blk_drew ?_ | refine blk_alloc ?_ _)); refine blk_far ?_ NB173_165.out _; (with_reducible repeat (first | refine blk_drewN ?_ _ | refine blk_drew ?_ | refine blk_alloc ?_ _)); exact BK173.out⟩
        have n4_ : Aside0 (((w52.setCell ⟨gb165, 0, none⟩ (.int .u64 t179)).setCell ⟨gb165, 1, none⟩ (.int .u64 t180)).heap[gb177]? = some (.cells #[.int .u64 t174, .int .u64 t175] 47 (0, 0))) := ⟨by (with_reducible repeat (first | refine blk_drewN ?_ _ | refine blk_drew ?_ | refine blk_alloc ?_ _)); refine blk_far ?_ NB177_165.out _; (with_reducible repeat (first | refine blk_drewN ?_ _ | refine blk_drew ?_ | refine blk_alloc ?_ _)); refine blk_far ?_ NB177_165.out _; (with_reducible repeat (first | refine blk_drewN ?_ _ | refine blk_drew ?_ | refine blk_alloc ?_ _)); exact BK177.out⟩
        have n5_ : Aside0 (Below w.heap.size w ((w52.setCell ⟨gb165, 0, none⟩ (.int .u64 t179)).setCell ⟨gb165, 1, none⟩ (.int .u64 t180))) := ⟨bl HB⟩
        (try clear BK165)
        (try clear BK166)
        (try clear BK167)
        (try clear BK173)
        (try clear BK177)
        (try clear HB)
        generalize ((w52.setCell ⟨gb165, 0, none⟩ (.int .u64 t179)).setCell ⟨gb165, 1, none⟩ (.int .u64 t180)) = w54 at n0_ n1_ n2_ n3_ n4_ n5_ ⊢
        have BK165 := n0_
        have BK166 := n1_
        have BK167 := n2_
        have BK173 := n3_
        have BK177 := n4_
        have HB := n5_
        clear n0_ n1_ n2_ n3_ n4_ n5_
        replace BK165 := Aside0.mk (blk_drew BK165.out)
        replace BK166 := Aside0.mk (blk_drew BK166.out)
        replace BK167 := Aside0.mk (blk_drew BK167.out)
        replace BK173 := Aside0.mk (blk_drew BK173.out)
        replace BK177 := Aside0.mk (blk_drew BK177.out)
        replace HB := Aside0.mk (below_drew1 HB.out)
        refine start_ (n := 7) (S := fun w' => w'.cell? ⟨gb173, 0, none⟩ = some (.int .u64 0) ∧ w'.cell? ⟨gb173, 1, none⟩ = some (.int .u64 x174001_1)) (ds := [6]) #[false, false, false, false, false, false, false] (by kernel_rfl) rfl rfl ⟨ck BK173 0, ck BK173 1⟩ (fun hHeld => ?_)
        generalize w54.drew = w55 at BK165 BK166 BK167 BK173 BK177 HB hHeld ⊢
        refine pure_ (i := 0) (N := some 48) (v := ?_) (a' := ?_) #[true, false, false, false, false, false, false] rfl rfl (by kernel_rfl) (fun _ _ _ h => h) (Or.inl ⟨by rfl, ?_⟩) ?_ ?_
        rotate_left
        ·intro w'
         go_simp
         with_reducible rfl
        rotate_left
        ·simp only [Act.put, List.setIfInBounds_toArray, List.set_cons_zero, List.set_cons_succ, i64_w, i32_w]
         rfl
        refine pure_ (i := 2) (N := some 50) (v := ?_) (a' := ?_) #[true, false, true, false, false, false, false] rfl rfl (by kernel_rfl) (fun _ _ _ h => h) (Or.inl ⟨by rfl, ?_⟩) ?_ ?_
        rotate_left
        ·intro w'
         go_simp
         with_reducible rfl
        rotate_left
        ·simp only [Act.put, List.setIfInBounds_toArray, List.set_cons_zero, List.set_cons_succ, i64_w, i32_w]
         rfl
        refine pure_ (i := 3) (N := some 51) (v := ?_) (a' := ?_) #[true, false, true, true, false, false, false] rfl rfl (by kernel_rfl) (fun _ _ _ h => h) (Or.inl ⟨by rfl, ?_⟩) ?_ ?_
        rotate_left
        ·intro w'
         go_simp
         with_reducible rfl
        rotate_left
        ·simp only [Act.put, List.setIfInBounds_toArray, List.set_cons_zero, List.set_cons_succ, i64_w, i32_w]
         rfl
        refine take_ (i := 1) (N := some 49) (v := ?_) (a' := ?_) #[true, true, true, true, false, false, false] rfl rfl (by kernel_rfl) (fun _ _ _ h => h) (Or.inl ⟨by rfl, ?_⟩) hHeld ?_ ?_
        rotate_left
        ·rintro w' ⟨s0, s1⟩
         go_simp
         with_reducible rfl
        rotate_left
        ·simp only [Act.put, List.setIfInBounds_toArray, List.set_cons_zero, List.set_cons_succ, i64_w, i32_w]
         rfl
        refine pure_ (i := 4) (N := some 52) (v := ?_) (a' := ?_) #[true, true, true, true, true, false, false] rfl rfl (by kernel_rfl) (fun _ _ _ h => h) (Or.inl ⟨by rfl, ?_⟩) ?_ ?_
        rotate_left
        ·intro w'
         go_simp
         with_reducible rfl
        rotate_left
        ·simp only [Act.put, List.setIfInBounds_toArray, List.set_cons_zero, List.set_cons_succ, i64_w, i32_w]
         rfl
        refine pure_ (i := 5) (N := some 53) (v := ?_) (a' := ?_) #[true, true, true, true, true, true, false] rfl rfl (by kernel_rfl) (fun _ _ _ h => h) (Or.inl ⟨by rfl, ?_⟩) ?_ ?_
        rotate_left
        ·intro w'
         go_simp
         with_reducible rfl
        rotate_left
        ·simp only [Act.put, List.setIfInBounds_toArray, List.set_cons_zero, List.set_cons_succ, i64_w, i32_w]
         rfl
        refine last_ (i := 6) (N := none) #[true, true, true, true, true, true, true] rfl rfl (by kernel_rfl) (by decide) (fun K hK => ?_)
        have hs56 : w55.cell? ⟨gb173, 1, none⟩ = some (.int .u64 x174001_1) := ck BK173 1
        have hfs56 := blk_frozen BK173.out 1
        have hns56_0 := NB165_173.out
        have hns56_1 := NB166_173.out
        have hns56_2 := NB167_173.out
        have hns56_4 := NB177_173.out
        have hms56_0 := NB173_165.out
        have hms56_1 := NB173_166.out
        have hms56_2 := NB173_167.out
        have hms56_4 := NB173_177.out
        refine skip_ (w1 := ?_) (by rfl) rfl ?_ ?_
        rotate_left
        ·go_simp
         rfl
        refine hK.out _ _ ?_
        clear hK K
        refine done_ (by kernel_rfl) ?_
        try go_wp2
        go_roundg k1
        case measure => have := HK1.out; omega
        case rel => exact ⟨(wrap64 (x9_1 - 1)), (t179), (t180), (Go.bits .or .u64 x174001_1 (ji34)), (by first | rfl | (simp; done) | (simp [*]; done)), H', ⟨by have := HK1.out; omega⟩, ⟨by (with_reducible repeat (first | refine blk_drewN ?_ _ | refine blk_drew ?_ | refine blk_alloc ?_ _)); refine blk_far ?_ NB165_173.out _; (with_reducible repeat (first | refine blk_drewN ?_ _ | refine blk_drew ?_ | refine blk_alloc ?_ _)); exact BK165.out⟩, ⟨by (with_reducible repeat (first | refine blk_drewN ?_ _ | refine blk_drew ?_ | refine blk_alloc ?_ _)); refine blk_far ?_ NB166_173.out _; (with_reducible repeat (first | refine blk_drewN ?_ _ | refine blk_drew ?_ | refine blk_alloc ?_ _)); exact BK166.out⟩, ⟨by (with_reducible repeat (first | refine blk_drewN ?_ _ | refine blk_drew ?_ | refine blk_alloc ?_ _)); refine blk_far ?_ NB167_173.out _; (with_reducible repeat (first | refine blk_drewN ?_ _ | refine blk_drew ?_ | refine blk_alloc ?_ _)); exact BK167.out⟩, ⟨by (with_reducible repeat (first | refine blk_drewN ?_ _ | refine blk_drew ?_ | refine blk_alloc ?_ _)); refine blk_put (cs := #[.int .u64 0, .int .u64 x174001_1]) ?_ 1 _ rfl; (with_reducible repeat (first | refine blk_drewN ?_ _ | refine blk_drew ?_ | refine blk_alloc ?_ _)); exact BK173.out⟩, ⟨bl HB⟩⟩
       ·rw [if_neg c33] at H
        exact absurd H (by simp)
      ·rw [if_neg c31] at H
       have c31b0 : decide (0 ≤ t178) = false := decide_eq_false c31
       clear c31
       have H' := Aside0.mk H
       clear H
       have hnb57 := NB166_165.out
       have hnc57 := NB165_166.out
       have hnb58 := NB166_167.out
       have hnc58 := NB167_166.out
       have hnb59 := NB166_173.out
       have hnc59 := NB173_166.out
       have hcz60_0 := ck BK166 0
       have hcz60_1 := ck BK166 1
       have hfz60_0 := blk_frozen BK166.out 0
       have hfz60_1 := blk_frozen BK166.out 1
       go_wp2_with (first | ((with_reducible refine gate_callee (f := 48) rfl ?_); refine goesL_ (some 31) rfl rfl Tryd.func48 (by kernel_rfl) rfl #[.agg #[.int .u64 a1_0, .int .u64 a1_1], .int .i64 x9_1] rfl gm_ ?_; (with_reducible refine (wide_Shift.calls k1 a1_0 a1_1 x9_1 t174 t175 t176 _ A28.out).mono ?_); rintro e w61 ⟨rfl, hb⟩; refine ⟨_, rfl, ?_⟩; replace BK165 := Aside0.mk (blk_below (kb BK165) hb); replace BK166 := Aside0.mk (blk_below (kb BK166) hb); replace BK167 := Aside0.mk (blk_below (kb BK167) hb); replace BK173 := Aside0.mk (blk_below (kb BK173) hb); replace HB := Aside0.mk (below_step (bl HB) hb); (try clear hb); (try clear hb2); (try clear hk); (try clear hi)) | ((with_reducible refine gate_dst (N := 10) rfl ?_); refine box_event ?hg (N := 10) ?hd (cs := #[.int .u64 0, .int .u64 0]) (t := 47) ?hr ?_; (case hd => rfl); (case hg => rfl); (case hr => exact gs_); intro gb177 hg w62 hbox hb; have BK177 := Aside0.mk (hbox); have GW177 := Aside0.mk ((by rw [hg]; exact (below_size (bl HB)) : w.heap.size ≤ gb177)); have GE177 := Aside0.mk ((by rw [hg]; exact (below_size (bl HB)) : w.heap.size ≤ gb177)); replace HB := Aside0.mk (below_step (bl HB) hb); have NB165_177 := Aside0.mk ((by rw [hg]; exact Nat.ne_of_lt (blk_lt (kb BK165)) : gb165 ≠ gb177)); have NB177_165 := Aside0.mk ((by rw [hg]; exact Nat.ne_of_gt (blk_lt (kb BK165)) : gb177 ≠ gb165)); replace BK165 := Aside0.mk (blk_below (kb BK165) hb); have NB166_177 := Aside0.mk ((by rw [hg]; exact Nat.ne_of_lt (blk_lt (kb BK166)) : gb166 ≠ gb177)); have NB177_166 := Aside0.mk ((by rw [hg]; exact Nat.ne_of_gt (blk_lt (kb BK166)) : gb177 ≠ gb166)); replace BK166 := Aside0.mk (blk_below (kb BK166) hb); have NB167_177 := Aside0.mk ((by rw [hg]; exact Nat.ne_of_lt (blk_lt (kb BK167)) : gb167 ≠ gb177)); have NB177_167 := Aside0.mk ((by rw [hg]; exact Nat.ne_of_gt (blk_lt (kb BK167)) : gb177 ≠ gb167)); replace BK167 := Aside0.mk (blk_below (kb BK167) hb); have NB173_177 := Aside0.mk ((by rw [hg]; exact Nat.ne_of_lt (blk_lt (kb BK173)) : gb173 ≠ gb177)); have NB177_173 := Aside0.mk ((by rw [hg]; exact Nat.ne_of_gt (blk_lt (kb BK173)) : gb177 ≠ gb173)); replace BK173 := Aside0.mk (blk_below (kb BK173) hb); clear hb hbox hg; have hnb63 := NB177_165.out; have hnc63 := NB165_177.out; have hnb64 := NB177_166.out; have hnc64 := NB166_177.out; have hnb65 := NB177_167.out; have hnc65 := NB167_177.out; have hnb66 := NB177_173.out; have hnc66 := NB173_177.out; have hcz67_0 := ck BK177 0; have hcz67_1 := ck BK177 1; have hfz67_0 := blk_frozen BK177.out 0; have hfz67_1 := blk_frozen BK177.out 1; have hnb68 := NB165_167.out; have hnc68 := NB167_165.out; have hnb69 := NB165_173.out; have hnc69 := NB173_165.out; have hcz70_0 := ck BK165 0; have hcz70_1 := ck BK165 1; have hfz70_0 := blk_frozen BK165.out 0; have hfz70_1 := blk_frozen BK165.out 1) | (go_at_call 34; (with_reducible refine (wide_Cmp.calls k1 x166000_1 x166001_1 t174 t175 t178 _ A30.out).mono ?_); rintro e w71 ⟨rfl, hb⟩; replace BK165 := Aside0.mk (blk_below (g := gb165) (o := .cells #[.int .u64 x166000_1, .int .u64 x166001_1] 47 (0, 0)) (by (with_reducible repeat (first | refine blk_drewN ?_ _ | refine blk_drew ?_ | refine blk_alloc ?_ _)); refine blk_far ?_ NB165_177.out _; (with_reducible repeat (first | refine blk_drewN ?_ _ | refine blk_drew ?_ | refine blk_alloc ?_ _)); refine blk_far ?_ NB165_177.out _; (with_reducible repeat (first | refine blk_drewN ?_ _ | refine blk_drew ?_ | refine blk_alloc ?_ _)); exact BK165.out) hb); replace BK166 := Aside0.mk (blk_below (g := gb166) (o := .cells #[.int .u64 a1_0, .int .u64 a1_1] 47 (0, 0)) (by (with_reducible repeat (first | refine blk_drewN ?_ _ | refine blk_drew ?_ | refine blk_alloc ?_ _)); refine blk_far ?_ NB166_177.out _; (with_reducible repeat (first | refine blk_drewN ?_ _ | refine blk_drew ?_ | refine blk_alloc ?_ _)); refine blk_far ?_ NB166_177.out _; (with_reducible repeat (first | refine blk_drewN ?_ _ | refine blk_drew ?_ | refine blk_alloc ?_ _)); exact BK166.out) hb); replace BK167 := Aside0.mk (blk_below (g := gb167) (o := .cells #[.int .u64 0, .int .u64 0] 47 (0, 0)) (by (with_reducible repeat (first | refine blk_drewN ?_ _ | refine blk_drew ?_ | refine blk_alloc ?_ _)); refine blk_far ?_ NB167_177.out _; (with_reducible repeat (first | refine blk_drewN ?_ _ | refine blk_drew ?_ | refine blk_alloc ?_ _)); refine blk_far ?_ NB167_177.out _; (with_reducible repeat (first | refine blk_drewN ?_ _ | refine blk_drew ?_ | refine blk_alloc ?_ _)); exact BK167.out) hb); replace BK173 := Aside0.mk (blk_below (g := gb173) (o := .cells #[.int .u64 0, .int .u64 x174001_1] 47 (0, 0)) (by (with_reducible repeat (first | refine blk_drewN ?_ _ | refine blk_drew ?_ | refine blk_alloc ?_ _)); refine blk_far ?_ NB173_177.out _; (with_reducible repeat (first | refine blk_drewN ?_ _ | refine blk_drew ?_ | refine blk_alloc ?_ _)); refine blk_far ?_ NB173_177.out _; (with_reducible repeat (first | refine blk_drewN ?_ _ | refine blk_drew ?_ | refine blk_alloc ?_ _)); exact BK173.out) hb); replace BK177 := Aside0.mk (blk_below (g := gb177) (o := .cells #[.int .u64 t174, .int .u64 t175] 47 (0, 0)) (by (with_reducible repeat (first | refine blk_drewN ?_ _ | refine blk_drew ?_ | refine blk_alloc ?_ _)); refine blk_put (cs := #[.int .u64 t174, .int .u64 0]) ?_ 1 _ rfl; (with_reducible repeat (first | refine blk_drewN ?_ _ | refine blk_drew ?_ | refine blk_alloc ?_ _)); refine blk_put (cs := #[.int .u64 0, .int .u64 0]) ?_ 0 _ rfl; (with_reducible repeat (first | refine blk_drewN ?_ _ | refine blk_drew ?_ | refine blk_alloc ?_ _)); exact BK177.out) hb); replace HB := Aside0.mk (below_step (bl HB) hb); (try clear hb); (try clear hb2); (try clear hk); (try clear hi)))
       go_roundg k1
       case measure => have := HK1.out; omega
       case rel => exact ⟨(wrap64 (x9_1 - 1)), (x166000_1), (x166001_1), (x174001_1), (by first | rfl | (simp; done) | (simp [*]; done)), H', ⟨by have := HK1.out; omega⟩, ⟨kb BK165⟩, ⟨kb BK166⟩, ⟨kb BK167⟩, ⟨kb BK173⟩, ⟨bl HB⟩⟩
     ·rw [if_neg c29] at H
      have c29b0 : (t176 == 0) = false := beq_eq_false_iff_ne.mpr c29
      have c29b1 : (t176 != 0) = true := bne_iff_ne.mpr c29
      have H' := Aside0.mk H
      clear H
      have hnb72 := NB166_165.out
      have hnc72 := NB165_166.out
      have hnb73 := NB166_167.out
      have hnc73 := NB167_166.out
      have hnb74 := NB166_173.out
      have hnc74 := NB173_166.out
      have hcz75_0 := ck BK166 0
      have hcz75_1 := ck BK166 1
      have hfz75_0 := blk_frozen BK166.out 0
      have hfz75_1 := blk_frozen BK166.out 1
      go_wp2_with (first | ((with_reducible refine gate_callee (f := 48) rfl ?_); refine goesL_ (some 31) rfl rfl Tryd.func48 (by kernel_rfl) rfl #[.agg #[.int .u64 a1_0, .int .u64 a1_1], .int .i64 x9_1] rfl gm_ ?_; (with_reducible refine (wide_Shift.calls k1 a1_0 a1_1 x9_1 t174 t175 t176 _ A28.out).mono ?_); rintro e w76 ⟨rfl, hb⟩; refine ⟨_, rfl, ?_⟩; replace BK165 := Aside0.mk (blk_below (kb BK165) hb); replace BK166 := Aside0.mk (blk_below (kb BK166) hb); replace BK167 := Aside0.mk (blk_below (kb BK167) hb); replace BK173 := Aside0.mk (blk_below (kb BK173) hb); replace HB := Aside0.mk (below_step (bl HB) hb); (try clear hb); (try clear hb2); (try clear hk); (try clear hi)) | ((with_reducible refine gate_dst (N := 10) rfl ?_); refine box_event ?hg (N := 10) ?hd (cs := #[.int .u64 0, .int .u64 0]) (t := 47) ?hr ?_; (case hd => rfl); (case hg => rfl); (case hr => exact gs_); intro gb177 hg w77 hbox hb; have BK177 := Aside0.mk (hbox); have GW177 := Aside0.mk ((by rw [hg]; exact (below_size (bl HB)) : w.heap.size ≤ gb177)); have GE177 := Aside0.mk ((by rw [hg]; exact (below_size (bl HB)) : w.heap.size ≤ gb177)); replace HB := Aside0.mk (below_step (bl HB) hb); have NB165_177 := Aside0.mk ((by rw [hg]; exact Nat.ne_of_lt (blk_lt (kb BK165)) : gb165 ≠ gb177)); have NB177_165 := Aside0.mk ((by rw [hg]; exact Nat.ne_of_gt (blk_lt (kb BK165)) : gb177 ≠ gb165)); replace BK165 := Aside0.mk (blk_below (kb BK165) hb); have NB166_177 := Aside0.mk ((by rw [hg]; exact Nat.ne_of_lt (blk_lt (kb BK166)) : gb166 ≠ gb177)); have NB177_166 := Aside0.mk ((by rw [hg]; exact Nat.ne_of_gt (blk_lt (kb BK166)) : gb177 ≠ gb166)); replace BK166 := Aside0.mk (blk_below (kb BK166) hb); have NB167_177 := Aside0.mk ((by rw [hg]; exact Nat.ne_of_lt (blk_lt (kb BK167)) : gb167 ≠ gb177)); have NB177_167 := Aside0.mk ((by rw [hg]; exact Nat.ne_of_gt (blk_lt (kb BK167)) : gb177 ≠ gb167)); replace BK167 := Aside0.mk (blk_below (kb BK167) hb); have NB173_177 := Aside0.mk ((by rw [hg]; exact Nat.ne_of_lt (blk_lt (kb BK173)) : gb173 ≠ gb177)); have NB177_173 := Aside0.mk ((by rw [hg]; exact Nat.ne_of_gt (blk_lt (kb BK173)) : gb177 ≠ gb173)); replace BK173 := Aside0.mk (blk_below (kb BK173) hb); clear hb hbox hg; have hnb78 := NB177_165.out; have hnc78 := NB165_177.out; have hnb79 := NB177_166.out; have hnc79 := NB166_177.out; have hnb80 := NB177_167.out; have hnc80 := NB167_177.out; have hnb81 := NB177_173.out; have hnc81 := NB173_177.out; have hcz82_0 := ck BK177 0; have hcz82_1 := ck BK177 1; have hfz82_0 := blk_frozen BK177.out 0; have hfz82_1 := blk_frozen BK177.out 1))
      go_roundg k1
      case measure => have := HK1.out; omega
      case rel => exact ⟨(wrap64 (x9_1 - 1)), (x166000_1), (x166001_1), (x174001_1), (by first | rfl | (simp; done) | (simp [*]; done)), H', ⟨by have := HK1.out; omega⟩, ⟨by (with_reducible repeat (first | refine blk_drewN ?_ _ | refine blk_drew ?_ | refine blk_alloc ?_ _)); refine blk_far ?_ NB165_177.out _; (with_reducible repeat (first | refine blk_drewN ?_ _ | refine blk_drew ?_ | refine blk_alloc ?_ _)); refine blk_far ?_ NB165_177.out _; (with_reducible repeat (first | refine blk_drewN ?_ _ | refine blk_drew ?_ | refine blk_alloc ?_ _)); exact BK165.out⟩, ⟨by (with_reducible repeat (first | refine blk_drewN ?_ _ | refine blk_drew ?_ | refine blk_alloc ?_ _)); refine blk_far ?_ NB166_177.out _; (with_reducible repeat (first | refine blk_drewN ?_ _ | refine blk_drew ?_ | refine blk_alloc ?_ _)); refine blk_far ?_ NB166_177.out _; (with_reducible repeat (first | refine blk_drewN ?_ _ | refine blk_drew ?_ | refine blk_alloc ?_ _)); exact BK166.out⟩, ⟨by (with_reducible repeat (first | refine blk_drewN ?_ _ | refine blk_drew ?_ | refine blk_alloc ?_ _)); refine blk_far ?_ NB167_177.out _; (with_reducible repeat (first | refine blk_drewN ?_ _ | refine blk_drew ?_ | refine blk_alloc ?_ _)); refine blk_far ?_ NB167_177.out _; (with_reducible repeat (first | refine blk_drewN ?_ _ | refine blk_drew ?_ | refine blk_alloc ?_ _)); exact BK167.out⟩, ⟨by (with_reducible repeat (first | refine blk_drewN ?_ _ | refine blk_drew ?_ | refine blk_alloc ?_ _)); refine blk_far ?_ NB173_177.out _; (with_reducible repeat (first | refine blk_drewN ?_ _ | refine blk_drew ?_ | refine blk_alloc ?_ _)); refine blk_far ?_ NB173_177.out _; (with_reducible repeat (first | refine blk_drewN ?_ _ | refine blk_drew ?_ | refine blk_alloc ?_ _)); exact BK173.out⟩, ⟨bl HB⟩⟩
    ·rw [if_neg c27] at H
     have c27b0 : decide (0 ≤ x9_1) = false := decide_eq_false c27
     clear c27
     simp only [Option.some.injEq, Prod.mk.injEq] at H
     obtain ⟨rfl, rfl⟩ := H
     have hnb83 := NB173_165.out
     have hnc83 := NB165_173.out
     have hnb84 := NB173_166.out
     have hnc84 := NB166_173.out
     have hnb85 := NB173_167.out
     have hnc85 := NB167_173.out
     have hcz86_0 := ck BK173 0
     have hcz86_1 := ck BK173 1
     have hfz86_0 := blk_frozen BK173.out 0
     have hfz86_1 := blk_frozen BK173.out 1
     have hnb87 := NB167_165.out
     have hnc87 := NB165_167.out
     have hnb88 := NB167_166.out
     have hnc88 := NB166_167.out
     have hcz89_0 := ck BK167 0
     have hcz89_1 := ck BK167 1
     have hfz89_0 := blk_frozen BK167.out 0
     have hfz89_1 := blk_frozen BK167.out 1
     go_wp2
     refine bodyPost_ret (results_cell_row rfl _ _ gb167 47 #[.int .u64 0, .int .u64 x174001_1] (0, 0) _ rfl (by (with_reducible repeat (first | refine blk_drewN ?_ _ | refine blk_drew ?_ | refine blk_alloc ?_ _)); refine blk_put (cs := #[.int .u64 0, .int .u64 0]) ?_ 1 _ rfl; (with_reducible repeat (first | refine blk_drewN ?_ _ | refine blk_drew ?_ | refine blk_alloc ?_ _)); refine blk_put (cs := #[.int .u64 0, .int .u64 0]) ?_ 0 _ rfl; (with_reducible repeat (first | refine blk_drewN ?_ _ | refine blk_drew ?_ | refine blk_alloc ?_ _)); exact BK167.out) Tryd.underlying47 rfl (by kernel_rfl)) rfl ?_
     exact ⟨by first | rfl | (simp [errW_none, errW_some] <;> rfl) | (simp [*, errW_none, errW_some] <;> rfl), bl HB⟩

/-! ### ratio_fits: function 45 -/
def ratio_fits.j0 : Nat → Bool → Bool → Int → Int → Option (Int × Bool)
 | 0, _, _, _, _ => none
 | k + 1, x0, x6, x183000, x183001 => if x6 = true then (some (0, false)) else (if x0 = true then (some (wrap64 (IntKind.u64.wrap (-x183001)), true)) else (some (wrap64 (x183001), true)))
def ratio_fits.f (k : Nat) (a0 : Bool) (a1_0 : Int) (a1_1 : Int) : Option (Int × Bool) := if a1_0 = 0 then (if a1_1 > 9223372036854775808 then (ratio_fits.j0 k a0 true a1_0 a1_1) else (if a1_1 = 9223372036854775808 then (ratio_fits.j0 k a0 (!a0) a1_0 a1_1) else (ratio_fits.j0 k a0 false a1_0 a1_1))) else (ratio_fits.j0 k a0 true a1_0 a1_1)
theorem ratio_fits.mono_l : ∀ k, (∀ y0 y1 y2 y3, LeO (ratio_fits.j0 k y0 y1 y2 y3) (ratio_fits.j0 (k + 1) y0 y1 y2 y3))
 | 0 => fun _ _ _ _ r h => by simp [ratio_fits.j0] at h
 | k + 1 => by
  have ih0 := ratio_fits.mono_l k
  ·intro y0 y1 y2 y3
   unfold ratio_fits.j0
   repeat' first
   | (with_reducible exact ih0 _ _ _ _)
   | (with_reducible exact LeO.refl _)
   | (with_reducible exact LeO.none _)
   | (with_reducible refine LeO.ite ?_ ?_)
   | (with_reducible refine LeO.bind ?_ (fun _ => ?_))
   | exact ih0 _ _ _ _
   | exact LeO.none _
   | refine LeO.ite ?_ ?_
   | refine LeO.bind ?_ (fun _ => ?_)
theorem ratio_fits.mono : ∀ a0 a1 a2 k, LeO (ratio_fits.f k a0 a1 a2) (ratio_fits.f (k + 1) a0 a1 a2) := by
 intro a0 a1 a2 k
 have ih0 := ratio_fits.mono_l k
 unfold ratio_fits.f
 repeat' first
   | (with_reducible exact ih0 _ _ _ _)
   | (with_reducible exact LeO.refl _)
   | (with_reducible exact LeO.none _)
   | (with_reducible refine LeO.ite ?_ ?_)
   | (with_reducible refine LeO.bind ?_ (fun _ => ?_))
   | exact ih0 _ _ _ _
   | exact LeO.none _
   | refine LeO.ite ?_ ?_
   | refine LeO.bind ?_ (fun _ => ?_)
set_option maxHeartbeats 8000000 in
set_option maxRecDepth 100000 in
theorem ratio_fits.calls (k : Nat) (a0 : Bool) (a1_0 : Int) (a1_1 : Int) (r1 : Int) (r2 : Bool) (w : World) (h : ratio_fits.f k a0 a1_0 a1_1 = some (r1, r2)) :
  Calls Tryd.prog 45 #[.bool a0, .agg #[.int .u64 a1_0, .int .u64 a1_1]] w fun e w' => e = .returned (.tuple #[.int .i64 r1, .bool r2]) ∧ Below w.heap.size w w' := by
 have hu47 := Tryd.underlying47
 have HB := Aside0.mk (Below.refl w.heap.size w)
 have H : (if a1_0 = 0 then (if a1_1 > 9223372036854775808 then (ratio_fits.j0 k a0 true a1_0 a1_1) else (if a1_1 = 9223372036854775808 then (ratio_fits.j0 k a0 (!a0) a1_0 a1_1) else (ratio_fits.j0 k a0 false a1_0 a1_1))) else (ratio_fits.j0 k a0 true a1_0 a1_1)) = some (r1, r2) := h
 clear h
 have HC3 := Aside0.mk H
 clear H
 go_enter Tryd.func45, Tryd.ntmps45
 go_upto_region 1 with (first | ((with_reducible refine gate_dst (N := 3) rfl ?_); refine box_event ?hg (N := 3) ?hd (cs := #[.int .u64 a1_0, .int .u64 a1_1]) (t := 47) ?hr ?_; (case hd => rfl); (case hg => rfl); (case hr => exact gs_); intro gb182 hg w4 hbox hb; have BK182 := Aside0.mk (hbox); have GW182 := Aside0.mk ((by rw [hg]; exact (below_size (bl HB)) : w.heap.size ≤ gb182)); have GE182 := Aside0.mk ((by rw [hg]; exact (below_size (bl HB)) : w.heap.size ≤ gb182)); replace HB := Aside0.mk (below_step (bl HB) hb); clear hb hbox hg))
 (try simp only [Act.put, List.setIfInBounds_toArray, List.set_cons_zero, List.set_cons_succ])
 go_cut [6] (fun v6 wc => ∃ (kq : Nat) (x6_2 : Bool), v6 = .bool x6_2 ∧ Aside0 (ratio_fits.j0 kq a0 x6_2 a1_0 a1_1 = some (r1, r2)) ∧ Aside0 (kq ≤ k) ∧ Aside0 (wc.heap[gb182]? = some (.cells #[.int .u64 a1_0, .int .u64 a1_1] 47 (0, 0))) ∧ Aside0 (Below w.heap.size w wc))
 case first =>
  have H := HC3.out
  clear HC3
  by_cases c5 : a1_0 = 0
  ·rw [if_pos c5] at H
   have c5b0 : (a1_0 == 0) = true := beq_iff_eq.mpr c5
   have c5b1 : (a1_0 != 0) = false := bne_eq_false_iff_eq.mpr c5
   clear c5
   (first | rw [c5b0] | (simp only [i64_w, i32_w]; rw [c5b0]) | skip)
   by_cases c6 : a1_1 > 9223372036854775808
   ·rw [if_pos c6] at H
    have c6b0 : decide (9223372036854775808 < a1_1) = true := decide_eq_true c6
    clear c6
    have H' := Aside0.mk H
    clear H
    have hcz7_0 := ck BK182 0
    have hcz7_1 := ck BK182 1
    have hfz7_0 := blk_frozen BK182.out 0
    have hfz7_1 := blk_frozen BK182.out 1
    go_wp2
    go_meet
    case rel => exact ⟨_, (true), (by first | rfl | (simp; done) | (simp [*]; done)), H', ⟨by first | omega | exact Nat.le_refl _⟩, ⟨kb BK182⟩, ⟨bl HB⟩⟩
   ·rw [if_neg c6] at H
    have c6b0 : decide (9223372036854775808 < a1_1) = false := decide_eq_false c6
    clear c6
    by_cases c8 : a1_1 = 9223372036854775808
    ·rw [if_pos c8] at H
     have c8b0 : (a1_1 == 9223372036854775808) = true := beq_iff_eq.mpr c8
     have c8b1 : (a1_1 != 9223372036854775808) = false := bne_eq_false_iff_eq.mpr c8
     clear c8
     have H' := Aside0.mk H
     clear H
     have hcz9_0 := ck BK182 0
     have hcz9_1 := ck BK182 1
     have hfz9_0 := blk_frozen BK182.out 0
     have hfz9_1 := blk_frozen BK182.out 1
     go_wp2
     go_meet
     case rel => exact ⟨_, (!a0), (by first | rfl | (simp; done) | (simp [*]; done)), H', ⟨by first | omega | exact Nat.le_refl _⟩, ⟨kb BK182⟩, ⟨bl HB⟩⟩
    ·rw [if_neg c8] at H
     have c8b0 : (a1_1 == 9223372036854775808) = false := beq_eq_false_iff_ne.mpr c8
     have c8b1 : (a1_1 != 9223372036854775808) = true := bne_iff_ne.mpr c8
     have H' := Aside0.mk H
     clear H
     have hcz10_0 := ck BK182 0
     have hcz10_1 := ck BK182 1
     have hfz10_0 := blk_frozen BK182.out 0
     have hfz10_1 := blk_frozen BK182.out 1
     go_wp2
     go_meet
     case rel => exact ⟨_, (false), (by first | rfl | (simp; done) | (simp [*]; done)), H', ⟨by first | omega | exact Nat.le_refl _⟩, ⟨kb BK182⟩, ⟨bl HB⟩⟩
  ·rw [if_neg c5] at H
   have c5b0 : (a1_0 == 0) = false := beq_eq_false_iff_ne.mpr c5
   have c5b1 : (a1_0 != 0) = true := bne_iff_ne.mpr c5
   (first | rw [c5b0] | (simp only [i64_w, i32_w]; rw [c5b0]) | skip)
   have H' := Aside0.mk H
   clear H
   have hcz11_0 := ck BK182 0
   have hcz11_1 := ck BK182 1
   have hfz11_0 := blk_frozen BK182.out 0
   have hfz11_1 := blk_frozen BK182.out 1
   go_wp2
   go_meet
   case rel => exact ⟨_, (true), (by first | rfl | (simp; done) | (simp [*]; done)), H', ⟨by first | omega | exact Nat.le_refl _⟩, ⟨kb BK182⟩, ⟨bl HB⟩⟩
 case rest =>
  clear HC3
  try clear p2
  try clear c4
  try clear c5
  try clear c5b0
  try clear c5b1
  try clear c6
  try clear c6b0
  try clear c8
  try clear c8b0
  try clear c8b1
  try clear hcz10_0
  try clear hcz10_1
  try clear hcz11_0
  try clear hcz11_1
  try clear hcz7_0
  try clear hcz7_1
  try clear hcz9_0
  try clear hcz9_1
  try clear hfz10_0
  try clear hfz10_1
  try clear hfz11_0
  try clear hfz11_1
  try clear hfz7_0
  try clear hfz7_1
  try clear hfz9_0
  try clear hfz9_1
  obtain ⟨kq, x6_2, rfl, HA, HJ2, BK182, HB⟩ := hcut
  cases kq with
  | zero => exact absurd HA.out (by simp [ratio_fits.j0])
  | succ kj2 =>
   have H := HA.out
   clear HA
   simp only [ratio_fits.j0] at H
   by_cases c12 : x6_2 = true
   ·subst c12
    have H1 : (some (0, false)) = some (r1, r2) := by rw [if_pos rfl] at H; exact H
    clear H
    have H := H1
    clear H1
    simp only [Option.some.injEq, Prod.mk.injEq] at H
    obtain ⟨rfl, rfl⟩ := H
    go_wp2
    go_ret2
    exact ⟨by first | rfl | (simp [errW_none, errW_some] <;> rfl) | (simp [*, errW_none, errW_some] <;> rfl), bl HB⟩
   ·replace c12 := Bool.eq_false_iff.mpr c12
    subst c12
    have H1 : (if a0 = true then (some (wrap64 (IntKind.u64.wrap (-a1_1)), true)) else (some (wrap64 (a1_1), true))) = some (r1, r2) := by rw [if_neg (show ¬ (false = true) by decide)] at H; exact H
    clear H
    have H := H1
    clear H1
    by_cases c13 : a0 = true
    ·subst c13
     have H1 : (some (wrap64 (IntKind.u64.wrap (-a1_1)), true)) = some (r1, r2) := by rw [if_pos rfl] at H; exact H
     clear H
     have H := H1
     clear H1
     simp only [Option.some.injEq, Prod.mk.injEq] at H
     obtain ⟨rfl, rfl⟩ := H
     have hcz14_0 := ck BK182 0
     have hcz14_1 := ck BK182 1
     have hfz14_0 := blk_frozen BK182.out 0
     have hfz14_1 := blk_frozen BK182.out 1
     go_wp2
     go_ret2
     exact ⟨by first | rfl | (simp [errW_none, errW_some] <;> rfl) | (simp [*, errW_none, errW_some] <;> rfl), bl HB⟩
    ·replace c13 := Bool.eq_false_iff.mpr c13
     subst c13
     have H1 : (some (wrap64 (a1_1), true)) = some (r1, r2) := by rw [if_neg (show ¬ (false = true) by decide)] at H; exact H
     clear H
     have H := H1
     clear H1
     simp only [Option.some.injEq, Prod.mk.injEq] at H
     obtain ⟨rfl, rfl⟩ := H
     have hcz15_0 := ck BK182 0
     have hcz15_1 := ck BK182 1
     have hfz15_0 := blk_frozen BK182.out 0
     have hfz15_1 := blk_frozen BK182.out 1
     go_wp2
     go_ret2
     exact ⟨by first | rfl | (simp [errW_none, errW_some] <;> rfl) | (simp [*, errW_none, errW_some] <;> rfl), bl HB⟩

end Go.Proofs.YtglcjhjmncolpaaDoor.Q
