/- Joined texts, part 3 of what the law stands on: each as its own head says. -/
import Derived.Test.YtkfonacokamfiaaPly2
/- Caches: slices.Index, slices.Clone of keys. -/
namespace Go.Proofs.Ytkfonacokamfiaa
set_option linter.unusedVariables false
set_option linter.unusedSimpArgs false
open Go.RowKit
attribute [local go_sem] wext_cell wext_frozen wext_heap alloc_cell alloc_frozen alloc_heap setCell_cell objCell_cells objFrozen_cells

def Key.cells (k : Key) : List Value := [.int .i64 k.p, .int .i64 k.l, .int .u64 k.t]
def rowK (ks : List Key) : List Value := ks.flatMap Key.cells
def kAt (ks : List Key) (i : Nat) : Key := ks.getD i default
theorem rowK_length (ks : List Key) : (rowK ks).length = ks.length * 3 := by
  induction ks with
  | nil => rfl
  | cons k ks ih => simp only [rowK, List.flatMap_cons, List.length_append, List.length_cons] at *; simp only [Key.cells, List.length_cons, List.length_nil]; omega
theorem rowK_get : ∀ (ks : List Key) (i : Nat), i < ks.length → (rowK ks)[i * 3]? = some (.int .i64 (kAt ks i).p) ∧ (rowK ks)[i * 3 + 1]? = some (.int .i64 (kAt ks i).l) ∧ (rowK ks)[i * 3 + 2]? = some (.int .u64 (kAt ks i).t)
  | [], i, h => by simp at h
  | k :: ks, 0, h => by simp [rowK, Key.cells, kAt]
  | k :: ks, i + 1, h => by
    have h2 : i < ks.length := by simpa using h
    obtain ⟨a, b, c⟩ := rowK_get ks i h2
    have e : ∀ j, (rowK (k :: ks))[j + 3]? = (rowK ks)[j]? := fun j => by simp [rowK, Key.cells]
    have e2 : kAt (k :: ks) (i + 1) = kAt ks i := by simp [kAt]
    rw [e2]
    refine ⟨?_, ?_, ?_⟩
    · rw [show (i + 1) * 3 = i * 3 + 3 by omega, e]; exact a
    · rw [show (i + 1) * 3 + 1 = (i * 3 + 1) + 3 by omega, e]; exact b
    · rw [show (i + 1) * 3 + 2 = (i * 3 + 2) + 3 by omega, e]; exact c
theorem rowK_take (ks : List Key) (i : Nat) : rowK (ks.take i) = (rowK ks).take (i * 3) := by
  induction ks generalizing i with
  | nil => simp [rowK]
  | cons k ks ih =>
    cases i with
    | zero => simp [rowK]
    | succ i =>
      have := ih i
      rw [show (i + 1) * 3 = i * 3 + 3 by omega]
      simp only [List.take_succ_cons, rowK, List.flatMap_cons] at *
      rw [this]; simp [Key.cells]
theorem rowK_drop (ks : List Key) (i : Nat) : rowK (ks.drop i) = (rowK ks).drop (i * 3) := by
  induction ks generalizing i with
  | nil => simp [rowK]
  | cons k ks ih =>
    cases i with
    | zero => simp [rowK]
    | succ i =>
      have := ih i
      rw [show (i + 1) * 3 = i * 3 + 3 by omega]
      simp only [List.drop_succ_cons, rowK, List.flatMap_cons] at *
      rw [this]; simp [Key.cells]
theorem rowK_append (a b : List Key) : rowK (a ++ b) = rowK a ++ rowK b := by simp [rowK]
theorem rowK_one (a : List Key) : ∀ u ∈ rowK a, u.oneCell' = true := by
  intro u hu
  obtain ⟨k, _, hk⟩ := List.mem_flatMap.1 hu
  simp [Key.cells] at hk
  rcases hk with rfl | rfl | rfl <;> rfl

/-- whether two keys are the same -/
def keyB (k k' : Key) : Bool := decide (k = k')
theorem key_eql (p l t p' l' t' : Int) (w : World) : (binOp .eql 87 (.agg #[.int .i64 p, .int .i64 l, .int .u64 t]) (.agg #[.int .i64 p', .int .i64 l', .int .u64 t'])).run Try.prog w = .ok (.bool (keyB ⟨p, l, t⟩ ⟨p', l', t'⟩)) w := by
  have := key_equal ⟨p, l, t⟩ ⟨p', l', t'⟩ w
  rw [run_eql_struct]
  show ((Op.equal _ _ _).run _ _).andThen _ = _
  simp only [Key.val] at this
  rw [this]; rfl
attribute [local go_sem high] key_eql

/-- the place of a key; -1: it isn't there -/
def ixK (k : Key) : List Key → Int → Int
  | [], _ => -1
  | x :: ks, i => if k = x then i else ixK k ks (i + 1)
theorem ixK_drop (k : Key) (ks : List Key) (i : Nat) (h : i < ks.length) : ixK k (ks.drop i) i = if keyB k (kAt ks i) = true then (i : Int) else ixK k (ks.drop (i + 1)) ((i + 1 : Nat) : Int) := by
  have : ks.drop i = kAt ks i :: ks.drop (i + 1) := by
    rw [List.drop_eq_getElem_cons h]; simp [kAt, List.getD, h]
  rw [this, ixK]
  simp [keyB]

set_option maxHeartbeats 1000000 in
theorem indexK_c (ks : List Key) (k : Key) (v : Value) (w : World) (ho : Owns w 87 3 v ks.length (rowK ks)) :
    Calls Try.prog 72 #[v, k.val] w fun e w' => e = .returned (.int .i64 (ixK k ks 0)) ∧ Ext w w' := by
  obtain ⟨p, l, t⟩ := k
  obtain ⟨a, cap, rfl, hn, hm⟩ := ho.form
  unfold Key.val
  unfold maxLen at hm
  have hlen : ((ks.length : Nat) : Int) ≤ 9223372036854775807 := by omega
  go_enter Try.func72, Try.ntmps72
  go_wp2
  refine wp_gen ?_; intro W hW
  have hE : Ext w W := by rw [hW]; exact (by repeat (first | exact Ext.refl _ | assumption | refine Ext.alloc ?_ _ | refine Ext.drew ?_ | refine Ext.setCell ?_ (by first | (simp; done) | (dsimp only; omega)) _ | refine Ext.trans ?_ (by assumption)))
  have hbox : W.cell? ⟨w.heap.size, 0, none⟩ = some (.int .i64 p) ∧ W.cell? ⟨w.heap.size, 1, none⟩ = some (.int .i64 l) ∧ W.cell? ⟨w.heap.size, 2, none⟩ = some (.int .u64 t) := by
    rw [hW]; simp [go_sem]
  have hsz : w.heap.size < W.heap.size := by rw [hW]; simp
  obtain ⟨hb0, hb1, hb2⟩ := hbox
  clear hW
  go_loopw [8] (fun i wr => ∃ j : Nat, j ≤ ks.length ∧ i = .int .i64 j ∧ Aside (ixK ⟨p, l, t⟩ ks 0 = ixK ⟨p, l, t⟩ (ks.drop j) j) ∧ Ext W wr) (fun i _ => ks.length - (intOf i).toNat)
  case atStart => exact ⟨0, by omega, rfl, ⟨by simp⟩, Ext.refl _⟩
  case round =>
    obtain ⟨j, hj, rfl, hi, hb⟩ := hrel
    have HB := Lib.hid hb
    clear hb
    have HO := Lib.hid ho
    have HE := Lib.hid hE
    clear ho hE
    by_cases hlt : j < ks.length
    · obtain ⟨g, hg⟩ : ∃ g, a = some ⟨g, 0, none⟩ := by
        rcases HO.out.2 with ⟨_, h0⟩ | ⟨g, _, _, he, _⟩
        · omega
        · exact ⟨g, by injection he⟩
      subst hg
      have hgl := HO.out.lt g rfl
      obtain ⟨c0, c1, c2⟩ := rowK_get ks j hlt
      have d0 := HO.out.cells (g := g) rfl _ _ c0
      have d1 := HO.out.cells (g := g) rfl _ _ c1
      have d2 := HO.out.cells (g := g) rfl _ _ c2
      rw [← (HE.out.trans HB.out).cell _ _ hgl] at d0 d1 d2
      have e0 := fun d => wext_some (d := d) d0
      have e1 := fun d => wext_some (d := d) d1
      have e2 := fun d => wext_some (d := d) d2
      have f0 := fun d => wext_some (d := d) (HB.out.someCell hb0)
      have f1 := fun d => wext_some (d := d) (HB.out.someCell hb1)
      have f2 := fun d => wext_some (d := d) (HB.out.someCell hb2)
      clear hb0 hb1 hb2 d0 d1 d2 c0 c1 c2
      have hdrop := Aside.mk (ixK_drop ⟨p, l, t⟩ ks j hlt)
      go_upto_region 4 with (fail)
      refine region_ext (by kernel_rfl) (by kernel_rfl) ?_; (repeat (go_big_quiet_step (fail))); refine wpQuiet_nil ?_; intro w1 hb; have ⟨hc, hf, hh, hs⟩ := hb.facts; try simp only [World.size_alloc, World.size_setCell, World.size_drew] at hs
      go_wp2
      · go_ret
        refine ⟨?_, (HE.out.trans HB.out).trans hb⟩
        rename_i hq
        rw [hi.out, hdrop.out, if_pos hq]
        rfl
      · refine ⟨⟨j + 1, by omega, by go_num, ⟨?_⟩, HB.out.trans hb⟩, by simp [intOf]; omega⟩
        rw [hi.out, hdrop.out, if_neg]
        rename_i hq
        rw [show (kAt ks j) = ⟨(kAt ks j).p, (kAt ks j).l, (kAt ks j).t⟩ from rfl, hq]; simp
    · go_wp2
      go_ret
      refine ⟨?_, HE.out.trans HB.out⟩
      rw [hi.out, List.drop_eq_nil_of_le (by omega)]
      rfl

theorem keyRow : RowT Try.prog 95 87 3 24 := RowT.of (z := .agg #[.int .i64 0, .int .i64 0, .int .u64 0]) Try.underlying95 (by kernel_rfl) rfl

/-- What Clone hands back. -/
def EndKeys (w : World) (ks : List Key) (e : Ending) (w' : World) : Prop :=
  ∃ v', e = .returned v' ∧ Owns w' 87 3 v' ks.length (rowK ks) ∧ Ext w w' ∧ ∀ g, v'.ownBlock = some g → w.heap.size ≤ g

theorem cloneK_c (ks : List Key) (v : Value) (w : World) (ho : Owns w 87 3 v ks.length (rowK ks)) (hl : ks.length ≤ 1000) :
    Calls Try.prog 61 #[v] w (EndKeys w ks) := by
  have HO := Lib.hid ho
  have qT : ∀ (w : World) (a : Option Addr) (n c n' c' : Nat), (binOp .eql 95 (.slice a n c) (.slice none n' c')).run Try.prog w = .ok (.bool a.isNone) w := fun w a n c n' c' => Lib.run_eql_slice_nil w _ _ a n c n' c' Try.underlying95
  rcases ho.2 with ⟨rfl, h0⟩ | ⟨g, cap, cur, rfl, hg, hn, hm, hcs, htake⟩
  · go_enter Try.func61, Try.ntmps61
    clear ho h0
    go_wp2
    all_goals
      go_ret
      exact ⟨_, rfl, HO.out, (by repeat (first | exact Ext.refl _ | assumption | refine Ext.alloc ?_ _ | refine Ext.drew ?_ | refine Ext.setCell ?_ (by first | (simp; done) | (dsimp only; omega)) _ | refine Ext.trans ?_ (by assumption))), fun g hg => by cases hg⟩
  · go_enter Try.func61, Try.ntmps61
    unfold maxLen at hm
    clear ho htake hcs hg
    have hcl : ∀ j u, (rowK ks)[j]? = some u → (w.alloc (.cells #[] 87)).cell? ((⟨g, 0, none⟩ : Addr).add j) = some u := fun j u hu => by
      rw [add0, alloc_cell, if_pos (HO.out.lt g rfl)]; exact HO.out.cells rfl j u hu
    go_wp2_with (first | (at_builtin; refine wpList_append_owns rfl _ _ _ _ 3 24 keyRow rfl _ rfl 0 [] (Owns.fresh (c := #[]) (by rw [alloc_heap]; simp)) _ _ _ rfl (rowK ks) (rowK_length ks) hcl (rowK_one ks) (by unfold maxLen; omega) (by omega) ?_; intro v1 w1 q1 q2 q3; replace q2 : (w.alloc (.cells #[] 87)).grownBy w1 (some w.heap.size) := q2; replace q3 : v1.ownBlock = some w.heap.size ∨ v1.ownBlock = some (w.alloc (.cells #[] 87)).heap.size := q3))
    all_goals
      go_ret
      refine ⟨_, rfl, ?_, ?_, ?_⟩
      · show Owns w1 _ 3 v1 _ _
        simpa using q1
      · refine Keeps.to_ext (F := []) (Ext.refl w) ?_ (by simp)
        exact ((Keeps.of_ext ((Ext.refl w).alloc _)).grown q2 (fun x hx => .inr (by cases hx; exact Nat.le_refl _)))
      · intro g hg
        replace hg : v1.ownBlock = some g := hg
        rcases q3 with q3 | q3 <;> rw [q3] at hg <;> cases hg <;> simp
end Go.Proofs.Ytkfonacokamfiaa
