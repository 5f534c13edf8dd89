/- Short forms for the printed texts of this claim: facts whose proof is a fixed row of steps. -/
import Derived.Test.YtglcjhjmncolpaaDoorVMore
namespace Go.Proofs.YtglcjhjmncolpaaDoor.Q
open Go.RowKit Go.Proofs.YtglcjhjmncolpaaDoorW.PrintWords Go.Proofs.YtglcjhjmncolpaaDoorW.PrintLast Go.Proofs.YtglcjhjmncolpaaDoorW.PrintMore
/-- A block is as it was: behind what draws and what is made new. -/
theorem kb {w w' : World} {g : Nat} {o : Obj} (h : Aside0 (w.heap[g]? = some o)) (t : w.heap[g]? = some o → w'.heap[g]? = some o := by intro h_; (with_reducible repeat (first | refine blk_drewN ?_ _ | refine blk_drew ?_ | refine blk_alloc ?_ _)); exact h_) : w'.heap[g]? = some o := t h.out
/-- What lies below is as it was: behind what draws, what is made new, and what is set above. -/
theorem bl {b : Nat} {w W W' : World} (h : Aside0 (Below b w W)) (t : Below b w W → Below b w W' := by intro h_; repeat (first | (with_reducible first | exact h_ | apply below_alloc | apply pw_below_drewN | apply below_drew1 | refine below_set ?_ (Aside0.out (by assumption))) | exact h_)) : Below b w W' := t h.out
theorem gm_ {p : Prop} (h : p := by (try simp only [List.map_toArray, List.map_cons, List.map_nil]); first | done | rfl | (simp only [List.length_drop, List.length_take]; rfl)) : p := h
theorem gs_ {p : Prop} (h : p := by first | (go_simp; done) | (go_simp; rfl)) : p := h
theorem nm_ {p : Prop} (h : p := by first | (simp only [putAll, Act.put, List.setIfInBounds_toArray, List.set_cons_zero, List.set_cons_succ]; done) | (simp only [putAll, Act.put, List.setIfInBounds_toArray, List.set_cons_zero, List.set_cons_succ]; rfl)) : p := h
/-- A cell of a block. -/
theorem ck {w : World} {g : Nat} {t : TypeId} {cs : Array Value} {v : Value} (h : Aside0 (w.heap[g]? = some (.cells cs t (0, 0)))) (i : Nat) (e : cs.toList[i]? = some v := by exact rfl) : w.cell? ⟨g, i, none⟩ = some v := (blk_cell h.out i).trans (by rw [← Array.getElem?_toList]; exact e)
end Go.Proofs.YtglcjhjmncolpaaDoor.Q
