/- FaultGP: whatever is wrapped around a general protection fault, it is found; it is no page fault. -/
import Derived.Test.YtaobmiphnpkoiaaDoorAwake07
import Derived.Test.YtaobmiphnpkoiaaDoorRowL
namespace Go.Proofs.YtaobmiphnpkoiaaDoor
set_option linter.unusedVariables false
set_option linter.unusedSimpArgs false
open Go.RowKit
attribute [local go_sem] wext_cell wext_frozen wext_heap alloc_cell alloc_frozen alloc_heap setCell_cell objCell_cells objFrozen_cells

/-- A chain whose number is m, with no page fault in it. -/
structure NoH (m : Int) (w : World) (v : Value) : Prop where
  out : ∃ E, ErIs w E v ∧ E.num = some m
theorem NoH.mv {m : Int} {w w' : World} {v : Value} (h : NoH m w v) (k : Ext w w') : NoH m w' v := by
  obtain ⟨E, h1, h2⟩ := h.out
  exact ⟨E, h1.ext k, h2⟩
theorem NoH.form {m : Int} {w : World} {v : Value} (h : NoH m w v) : ∃ t x, v = .iface t x := by
  obtain ⟨E, h1, h2⟩ := h.out
  exact h1.form
def EndNo (m : Int) (w : World) (e : Ending) (w' : World) : Prop := ∃ t x, e = .returned (.iface t x) ∧ NoH m w' (.iface t x) ∧ Ext w w'
theorem wrapNo_c (m : Int) (y : ByteArray) (v : Value) (w : World) (h : NoH m w v) : Calls Tryd.prog 11 #[.string y, v] w (EndNo m w) := by
  obtain ⟨E, h1, h2⟩ := h.out
  exact (wrap_c y E v w h1).mono fun e w' hE => by
    obtain ⟨t, x, rfl, hv, hb⟩ := hE.form
    exact ⟨t, x, rfl, ⟨_, hv.out, h2⟩, hb⟩
theorem gpNo_c (y : ByteArray) (w : World) : Calls Tryd.prog 13 #[.string y] w (EndNo 5 w) :=
  (gp_c y w).mono fun e w' hE => by
    obtain ⟨t, x, rfl, hv, hb⟩ := hE.form
    exact ⟨t, x, rfl, ⟨_, hv.out, rfl⟩, hb⟩
theorem kindNo_c (m : Int) (v : Value) (w : World) (h : NoH m w v) (hg : Glob w) : Calls Tryd.prog 12 #[v] w fun e w' => e = .returned (.int .i64 m) ∧ Ext w w' := by
  obtain ⟨E, h1, h2⟩ := h.out
  exact kind_c m E v w h1 hg (by rw [h2]; rfl)
theorem isNo_c (m k : Int) (v : Value) (w : World) (h : NoH m w v) : Calls Tryd.prog 7 #[v, .iface 33 (.int .i64 k)] w fun e w' => e = .returned (.bool (m == k)) ∧ w' = w := by
  obtain ⟨E, h1, h2⟩ := h.out
  exact errIs_c k (m == k) E v w h1 (by rw [h2]; simp)
theorem ofNo_c (v : Value) (w : World) (h : NoH 5 w v) : Calls Tryd.prog 5 #[v] w fun e w' => e = .returned (.tuple #[.agg #[.int .u64 0, .int .i64 0], .bool false]) ∧ Ext w w' := by
  obtain ⟨E, h1, h2⟩ := h.out
  exact faultOf_no E v w h1 (by rw [h2]; rfl)

theorem strs_of {W : World} {v : Value} (h : (Dsc.slice .str).Is W [v]) : ∃ a len cap, v = .slice a len cap ∧ len ≤ maxLen ∧ (0 < len → ∃ b off, a = some ⟨b, off, none⟩ ∧ ∀ i, i < len → ∃ s, W.cell? ⟨b, off + i, none⟩ = some (.string s)) := by
  rcases h with h | ⟨a, len, cap, h, h1, h2, h3⟩
  · simp only [List.cons.injEq, and_true] at h
    exact ⟨none, 0, 0, h, by unfold maxLen; omega, fun h => absurd h (by omega)⟩
  · simp only [List.cons.injEq, and_true] at h
    refine ⟨some a, len, cap, h, by omega, fun h0 => ?_⟩
    obtain ⟨b, off, rfl, _, hc⟩ := slice_open (e := .str) (by simp [Dsc.size]) (by omega) h3
    refine ⟨b, off, rfl, fun i hi => ?_⟩
    obtain ⟨vs, hl, hj, x, rfl, _⟩ := hc i (by omega)
    have := hj 0 (by simp [Dsc.size])
    simp only [Dsc.size, Nat.mul_one, Nat.add_zero] at this
    exact ⟨x, this⟩
end Go.Proofs.YtaobmiphnpkoiaaDoor
