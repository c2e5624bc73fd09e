/- Joined texts, part 11 of what the law stands on: each as its own head says. -/
import Derived.Test.YtkfonacokamfiaaGreatPlb10
/- Caches: Room, Keys, Clear, New; of nil. -/
namespace Go.Proofs.YtkfonacokamfiaaGreat
set_option linter.unusedVariables false
set_option linter.unusedSimpArgs false
open Go.RowKit
attribute [local go_sem] wext_cell wext_frozen wext_heap alloc_cell alloc_frozen alloc_heap setCell_cell objCell_cells objFrozen_cells
attribute [local go_sem high] key_eql

def clampR (room : Int) : Nat := if room < 0 then 0 else if 64 < room then 64 else room.toNat
theorem clampR_le (r : Int) : clampR r ≤ 64 := by
  unfold clampR
  split
  · omega
  · split <;> omega
def EndNew (room : Int) (w : World) (e : Ending) (w' : World) : Prop :=
  ∃ cb F, e = .returned (.pointer (some ⟨cb, 0, none⟩)) ∧ CAt w' cb F [] (clampR room) ∧ Ext w w' ∧ ∀ x ∈ F, w.heap.size ≤ x
theorem new_c (room : Int) (w : World) (h0 : -9223372036854775808 ≤ room) (h1 : room ≤ 9223372036854775807) :
    Calls Tryz.prog 67 #[.int .i64 room] w (EndNew room w) := by
  have hmk : ∀ w, (Instr.makeMap 177 none).run Tryz.prog w = .ok (.map (some w.heap.size)) (w.alloc (.map #[] 0)) := fun _ => rfl
  go_enter Tryz.func67, Tryz.ntmps67
  go_wp2
  all_goals
    go_ret
    refine ⟨w.heap.size + 1, [w.heap.size + 1, w.heap.size], rfl, ⟨w.heap.size, .slice none 0 0, #[], 0, ?_, ?_, rfl, Owns.nil .., rfl, Nat.zero_le _, clampR_le _, List.nodup_nil⟩, (by repeat (first | exact Ext.refl _ | assumption | refine Ext.alloc ?_ _ | refine Ext.drew ?_ | refine Ext.setCell ?_ (by first | (simp; done) | (dsimp only; omega)) _ | refine Ext.trans ?_ (by assumption))), by simp⟩
    · rw [alloc_same1]
      unfold clampR
      first | (rw [if_pos (by omega)]; rfl) | (rw [if_neg (by omega), if_pos (by omega)]; rfl) | (rw [if_neg (by omega), if_neg (by omega), Int.toNat_of_nonneg (by omega)])
    · rw [alloc_other _ _ (by simp), alloc_same]

theorem clear_run (w : World) (mb : Nat) (es : Array MapEntry) (clock : Nat) (hb : w.heap[mb]? = some (.map es clock)) (ty : TypeId) :
    (Builtin.clear_ #[177] ty #[.map (some mb)]).run Tryz.prog w = .ok (.tuple #[]) (putBlk w mb (.map #[] clock)) := by
  simp [Builtin.clear_, run_underlying Tryz.underlying177, getObj_at hb, setObj_at _ hb]

theorem nil_put (k : Key) (x : Line) (pick : Int) (w : World) : Calls Tryz.prog 122 #[.pointer none, k.val, x.val, .int .i64 pick] w fun e w' => e = .returned (.tuple #[]) ∧ Ext w w' := by
  obtain ⟨p, l, t⟩ := k
  obtain ⟨zf, za, zb, zc, zd, zm⟩ := x
  unfold Key.val Line.val
  go_enter Tryz.func122, Tryz.ntmps122
  go_wp2
  refine ⟨rfl, .tuple #[], (by simp [results, Tryz.results122, go_sem]), ?_⟩
  exact ⟨rfl, (by repeat (first | exact Ext.refl _ | assumption | refine Ext.alloc ?_ _ | refine Ext.drew ?_ | refine Ext.setCell ?_ (by first | (simp; done) | (dsimp only; omega)) _ | refine Ext.trans ?_ (by assumption)))⟩
theorem nil_evict (pick : Int) (w : World) : Calls Tryz.prog 129 #[.pointer none, .int .i64 pick] w fun e w' => e = .returned (.tuple #[]) ∧ Ext w w' := by
  go_enter Tryz.func129, Tryz.ntmps129
  go_wp2
  refine ⟨rfl, .tuple #[], (by simp [results, Tryz.results129, go_sem]), ?_⟩
  exact ⟨rfl, (by repeat (first | exact Ext.refl _ | assumption | refine Ext.alloc ?_ _ | refine Ext.drew ?_ | refine Ext.setCell ?_ (by first | (simp; done) | (dsimp only; omega)) _ | refine Ext.trans ?_ (by assumption)))⟩
theorem nil_get (k : Key) (w : World) : Calls Tryz.prog 90 #[.pointer none, k.val] w fun e w' => e = .returned (.tuple #[noLine.val, .bool false]) ∧ Ext w w' := by
  obtain ⟨p, l, t⟩ := k
  unfold Key.val
  go_enter Tryz.func90, Tryz.ntmps90
  go_wp2
  refine bodyPost_ret (by simp [results, Tryz.results90, go_sem, ↓IntWalk.iteOmega, *]; try rfl) rfl ⟨rfl, (by repeat (first | exact Ext.refl _ | assumption | refine Ext.alloc ?_ _ | refine Ext.drew ?_ | refine Ext.setCell ?_ (by first | (simp; done) | (dsimp only; omega)) _ | refine Ext.trans ?_ (by assumption)))⟩
end Go.Proofs.YtkfonacokamfiaaGreat
