/- PscDrops: dropped, a page has no table over it, of that PCID; nor has anything of a PCID that is dropped; others keep theirs: for all words and addresses. -/
import Derived.Test.YtfaekfdngkpkdaaPsk4
import Derived.Test.YtfaekfdngkpkdaaHAtK
import Derived.Test.YtfaekfdngkpkdaaHPscGoes
namespace Go.Proofs.Ytfaekfdngkpkdaa
set_option linter.unusedVariables false
set_option linter.unusedSimpArgs false
open Go.RowKit
attribute [local go_sem] wext_cell wext_frozen wext_heap alloc_cell alloc_frozen alloc_heap setCell_cell objCell_cells objFrozen_cells
attribute [local go_sem high] pl_eql

def dropP (p a : Int) (C : Int → Lines) : Int → Lines := eachP (fun l L => delL (kP p l a) L) C
def ofP (p : Int) (C : Int → Lines) : Int → Lines := eachP (fun _ L => dropN p (keysOf L) L) C
def NodupC (C : Int → Lines) : Prop := ∀ l, 2 ≤ l → l ≤ 4 → (keysOf (C l)).Nodup
theorem eachP_at {f : Int → Lines → Lines} {C : Int → Lines} {l : Int} (l0 : 2 ≤ l) (l1 : l ≤ 4) : eachP f C l = f l (C l) := by unfold eachP; rw [if_pos ⟨l0, l1⟩]
theorem hasK_at {k : Key} {L L' : Lines} (h : atK k L = atK k L') : hasK k L = hasK k L' ∧ getLine k L = getLine k L' := by
  rw [hasK_find, hasK_find, getLine_find, getLine_find, h]; exact ⟨rfl, rfl⟩
theorem drop_none {p a : Int} {C : Int → Lines} (h : NodupC C) : deepF (dropP p a C) p a = none :=
  deepF_none.2 fun l l0 l1 => by unfold dropP; rw [eachP_at l0 l1, hasK_find, at_del_same (h l l0 l1)]; rfl
theorem drop_other {p a p' b : Int} {C : Int → Lines} (h : NodupC C) (hne : ∀ l, 2 ≤ l → l ≤ 4 → kP p' l b ≠ kP p l a) : deepF (dropP p a C) p' b = deepF C p' b :=
  deepF_congr fun l l0 l1 => by unfold dropP; rw [eachP_at l0 l1]; exact hasK_at (at_del (h l l0 l1) (hne l l0 l1))
theorem nodup_drop {p a : Int} {C : Int → Lines} (h : NodupC C) : NodupC (dropP p a C) := fun l l0 l1 => by
  unfold dropP; rw [eachP_at l0 l1, delL_filter (h l l0 l1)]; exact nodup_filter _ (h l l0 l1)
theorem ofP_at {p l : Int} {C : Int → Lines} (h : NodupC C) (l0 : 2 ≤ l) (l1 : l ≤ 4) : ofP p C l = filtL p (C l) := by unfold ofP; rw [eachP_at l0 l1, dropN_filtL (h l l0 l1)]
theorem of_other2 {M : Int → Int} {C : Int → Lines} (h : NodupC C) (hi : InvC M C) : ∀ l, 2 ≤ l → l ≤ 4 → ofP 2 C l = C l := fun l l0 l1 => by
  rw [ofP_at h l0 l1]
  exact List.filter_eq_self.2 fun y hy => by have := (hi l l0 l1 y hy).1; simp [this]
theorem of_one {M : Int → Int} {C : Int → Lines} (h : NodupC C) (hi : InvC M C) : ∀ l, 2 ≤ l → l ≤ 4 → ofP 1 C l = [] := fun l l0 l1 => by
  rw [ofP_at h l0 l1]
  exact List.filter_eq_nil_iff.2 fun y hy => by have := (hi l l0 l1 y hy).1; simp [this]
theorem tag_top {a b l : Int} (h0 : 2 ≤ l) (h1 : l ≤ 4) (h : tagP a l = tagP b l) : a / 549755813888 % 512 = b / 549755813888 % 512 := by
  obtain rfl | rfl | rfl : l = 2 ∨ l = 3 ∨ l = 4 := by omega
  all_goals (unfold tagP at h; simp at h; omega)
end Go.Proofs.Ytfaekfdngkpkdaa
