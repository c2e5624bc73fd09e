/- Joined texts, part 5 of what the law stands on: each as its own head says. -/
import Derived.Test.YtkfonacokamfiaaPly3
import Derived.Test.YtkfonacokamfiaaPly4
/- Caches: what a cache is in memory; cut, Drop, Evict. -/
namespace Go.Proofs.Ytkfonacokamfiaa
set_option linter.unusedVariables false
set_option linter.unusedSimpArgs false
open Go.RowKit
attribute [local go_sem] wext_cell wext_frozen wext_heap alloc_cell alloc_frozen alloc_heap setCell_cell objCell_cells objFrozen_cells
attribute [local go_sem high] key_eql

def keysOf (L : List (Key × Line)) : List Key := L.map (·.1)
theorem keysOf_length (L : List (Key × Line)) : (keysOf L).length = L.length := by simp [keysOf]

/-- The cache in block cb, its blocks, its lines in turn, its room. -/
def CAt (w : World) (cb : Nat) (F : List Nat) (L : List (Key × Line)) (r : Nat) : Prop :=
  ∃ mb ov es clock, w.heap[cb]? = some (.cells #[.map (some mb), ov, .int .i64 r] 117 (0, 0)) ∧ w.heap[mb]? = some (.map es clock) ∧ EntOk es L ∧
    Owns w 87 3 ov (keysOf L).length (rowK (keysOf L)) ∧ F = cb :: mb :: ov.ownBlock.toList ∧ L.length ≤ r ∧ r ≤ 64 ∧ (keysOf L).Nodup

/-- What an operation leaves. -/
def EndC (cb : Nat) (F : List Nat) (w : World) (L' : List (Key × Line)) (r : Nat) (e : Ending) (w' : World) : Prop :=
  e = .returned (.tuple #[]) ∧ ∃ F', CAt w' cb F' L' r ∧ Keeps F w w' ∧ ∀ x ∈ F', x ∈ F ∨ w.heap.size ≤ x


theorem nodup_look {k : Key} {x : Line} : ∀ {L : List (Key × Line)} {i : Nat}, (keysOf L).Nodup → L[i]? = some (k, x) → ∀ j, look k L j = some (i + j, x)
  | [], i, _, h, _ => by simp at h
  | y :: L, 0, _, h, j => by
    obtain rfl : y = (k, x) := by simpa using h
    simp [look]
  | y :: L, i + 1, hn, h, j => by
    have hn2 := List.nodup_cons.1 hn
    have h2 : L[i]? = some (k, x) := by simpa using h
    have hne : k ≠ y.1 := fun e => hn2.1 (by
      exact List.mem_map.2 ⟨(k, x), List.mem_of_getElem? h2, e⟩)
    unfold look
    rw [if_neg hne, nodup_look hn2.2 h2 (j + 1)]
    congr 2; omega

theorem kAt_get {k : Key} {L : List (Key × Line)} {n : Nat} (hn : n < L.length) (h : kAt (keysOf L) n = k) : ∃ x, L[n]? = some (k, x) := by
  refine ⟨(L[n]).2, ?_⟩
  rw [← h]
  simp [kAt, keysOf, List.getD, hn]
theorem keysOf_erase (L : List (Key × Line)) (n : Nat) : keysOf (L.eraseIdx n) = (keysOf L).take n ++ (keysOf L).drop (n + 1) := by
  rw [keysOf, ChangeMaps.map_eraseIdx, List.eraseIdx_eq_take_drop_succ]; rfl

set_option maxHeartbeats 1000000 in
theorem cut_c (cb : Nat) (F : List Nat) (L : List (Key × Line)) (r n : Nat) (w : World) (h : CAt w cb F L r) (hn : n < L.length) :
    Calls Try.prog 73 #[.pointer (some ⟨cb, 0, none⟩), .int .i64 n] w (EndC cb F w (L.eraseIdx n) r) := by
  obtain ⟨mb, ov, es, clock, h1, h2, h3, h4, h5, h6, h7, h8⟩ := h
  have hn' : n < (keysOf L).length := by rw [keysOf_length]; exact hn
  obtain ⟨g, cap, cur, rfl, hg, hnc, hcm, hcs, htake⟩ := h4.2.resolve_left (fun h => by omega)
  obtain ⟨c0, c1, c2⟩ := rowK_get (keysOf L) n hn'
  have d0 := h4.cells (g := g) rfl _ _ c0
  have d1 := h4.cells (g := g) rfl _ _ c1
  have d2 := h4.cells (g := g) rfl _ _ c2
  have e0 := fun d => wext_some (d := d) d0
  have e1 := fun d => wext_some (d := d) d1
  have e2 := fun d => wext_some (d := d) d2
  have a0 : ∀ d, (wext w d).cell? ⟨cb, 0, none⟩ = some (.map (some mb)) := fun d => wext_some (d := d) ((heap_cell h1 0).trans rfl)
  have a1 : ∀ d, (wext w d).cell? ⟨cb, 1, none⟩ = some (.slice (some ⟨g, 0, none⟩) (keysOf L).length cap) := fun d => wext_some (d := d) ((heap_cell h1 1).trans rfl)
  have k4 := keysOf_length L
  have hcap : cap ≤ 9223372036854775807 := by unfold maxLen at hcm; omega
  have H1 := Lib.hid h1
  have H2 := Lib.hid h2
  have H3 := Lib.hid h3
  have H4 := Lib.hid h4
  have H8 := Lib.hid h8
  clear h1 h2 h3 h4 h8 c0 c1 c2 d0 d1 d2 hg hcs htake hcm
  generalize hk : kAt (keysOf L) n = kk at e0 e1 e2
  obtain ⟨p, l, t⟩ := kk
  go_enter Try.func73, Try.ntmps73
  go_upto_region 0 with (fail)
  refine region_mix [.q [0, 1, 2, 3, 4, 5, 6, 7, 8, 9, 10], .l 11 2] (by kernel_rfl) (by kernel_rfl) ?_
  (try refine ⟨fun h => absurd h (by simp), ?_⟩); (repeat (unfold wpPlan; simp only [pickL, List.map_cons, List.map_nil, List.getD_cons_succ, List.getD_cons_zero]; (repeat go_big_quiet_step (fail)); refine wpQuiet_nil ?_)); unfold wpPlan; intro w1 hb1; (try simp only [pickL, List.map_cons, List.map_nil, List.getD_cons_succ, List.getD_cons_zero])
  have m1 : w1.heap[mb]? = some (.map es clock) := by rw [hb1.block _ (heap_lt H2.out)]; exact H2.out
  obtain ⟨es', hdel, hent⟩ := delete_run ⟨p, l, t⟩ w1 mb es clock L m1 H3.out
  unfold Key.val at hdel
  have HE := Lib.hid hent
  clear hent
  go_wp2
  (try refine ⟨fun h => absurd h (by simp), ?_⟩); (repeat (unfold wpPlan; simp only [pickL, List.map_cons, List.map_nil, List.getD_cons_succ, List.getD_cons_zero]; (repeat go_big_quiet_step (fail)); refine wpQuiet_nil ?_)); unfold wpPlan; intro w2 hb2; (try simp only [pickL, List.map_cons, List.map_nil, List.getD_cons_succ, List.getD_cons_zero])
  have hmc : mb ≠ cb := fun e => by have := H1.out; rw [← e, H2.out] at this; cases this
  have hmg : mb ≠ g := fun e => by obtain ⟨c, hc⟩ := H4.out.heap g rfl; rw [← e, H2.out] at hc; cases hc
  have hcg : cb ≠ g := fun e => by obtain ⟨c, hc⟩ := H4.out.heap g rfl; rw [← e, H1.out] at hc; cases hc
  have s1 : (putBlk w1 mb (.map es' clock)).heap.size = w1.heap.size := putBlk_size ..
  have lt1 := heap_lt H1.out
  have lt2 := heap_lt H2.out
  have ltg := H4.out.lt g rfl
  have sz1 := hb1.size
  have n1 : w2.heap[cb]? = _ := ((hb2.block cb (by omega)).trans (putBlk_heap _ _ _ _ hmc)).trans ((hb1.block cb lt1).trans H1.out)
  have n2 : w2.heap[mb]? = _ := (hb2.block mb (by omega)).trans (putBlk_same _ _ _ (by omega))
  have n4 : Owns w2 _ 3 _ _ _ := H4.out.keep (w' := w2) fun x hx => by
    cases hx
    exact ((hb2.block g (by omega)).trans (putBlk_heap _ _ _ _ hmg)).trans (hb1.block g ltg)
  have K2 : Keeps [mb] w w2 := ((Keeps.of_ext hb1).put (.inl (by simp)) _).ext hb2
  clear hdel m1 hb1 hb2 s1 sz1 e0 e1 e2 a0 a1
  have a1 : ∀ d, (wext w2 d).cell? ⟨cb, 1, none⟩ = some (.slice (some ⟨g, 0, none⟩) L.length cap) := fun d => wext_some (d := d) ((heap_cell n1 1).trans (by rw [← k4]; rfl))
  rw [k4] at hnc
  have N1 := Lib.hid n1
  have N2 := Lib.hid n2
  have N4 := Lib.hid n4
  have KK := Lib.hid K2
  clear n1 n2 n4 K2
  have hT : ∀ w3, Ext w2 w3 → Owns w3 87 3 (.slice (some ⟨g, 0, none⟩) n n) n ((rowK (keysOf L)).take (n * 3)) := fun w3 hx => (N4.out.ext hx).take rfl n (by omega)
  have hlen : ((rowK (keysOf L)).drop ((n + 1) * 3)).length = (L.length - (n + 1)) * 3 := by rw [List.length_drop, rowK_length, keysOf_length]; omega
  have hone : ∀ u ∈ (rowK (keysOf L)).drop ((n + 1) * 3), u.oneCell' = true := fun u hu => rowK_one _ u (List.mem_of_mem_drop hu)
  have hS : ∀ A : Addr, (A = ⟨g, (n + 1) * 3, none⟩ ∨ L.length = n + 1) → ∀ w3, Ext w2 w3 → ∀ j u, ((rowK (keysOf L)).drop ((n + 1) * 3))[j]? = some u → w3.cell? (A.add j) = some u := by
    intro A hA w3 hx j u hu
    rcases hA with rfl | hA
    · rw [List.getElem?_drop] at hu
      have : (⟨g, (n + 1) * 3, none⟩ : Addr).add j = ⟨g, (n + 1) * 3 + j, none⟩ := by unfold Addr.add; split <;> simp_all
      rw [this]
      exact (N4.out.ext hx).cells rfl _ _ hu
    · exfalso
      have h2 := (List.getElem?_eq_some_iff.1 hu).1
      rw [hlen] at h2; omega
  have HT := Lib.hid hT
  have HL := Lib.hid hlen
  have HO := Lib.hid hone
  have HS := Lib.hid hS
  clear hT hlen hone hS
  by_cases hce : cap = n + 1
  all_goals
    go_upto_region 1 with (fail)
    refine region_mix [.b [0], .q [1, 2, 3, 4, 5, 6, 7, 8, 9, 10, 11, 12, 13, 14], .l 15 2, .q [16, 17], .l 18 2] (by kernel_rfl) (by kernel_rfl) ?_
    (try refine ⟨fun h => absurd h (by simp), ?_⟩); (repeat (unfold wpPlan; simp only [pickL, List.map_cons, List.map_nil, List.getD_cons_succ, List.getD_cons_zero]; (repeat go_big_quiet_step (fail)); refine wpQuiet_nil ?_)); unfold wpPlan; intro w3 hb3; (try simp only [pickL, List.map_cons, List.map_nil, List.getD_cons_succ, List.getD_cons_zero])
    have HB3 := Lib.hid hb3
    clear hb3
    go_wp2_with (first | (at_builtin; refine wpList_append_owns rfl _ _ _ _ 3 24 keyRow rfl _ rfl n _ (HT.out w3 HB3.out) _ _ _ rfl _ HL.out (HS.out _ (by first | (left; rfl) | (right; omega)) w3 HB3.out) HO.out (by unfold maxLen; omega) (by omega) ?_; intro v4 w4 q1 q2 q3; replace q2 : w3.grownBy w4 (some g) := q2; replace q3 : v4.ownBlock = some g ∨ v4.ownBlock = some w3.heap.size := q3; obtain ⟨a4, c4, rfl, -, -⟩ := q1.form; simp only [Act.put, Array.set!_eq_setIfInBounds, List.setIfInBounds_toArray, List.set_cons_succ, List.set_cons_zero]))
    (try refine ⟨fun h => absurd h (by simp), ?_⟩); (repeat (unfold wpPlan; simp only [pickL, List.map_cons, List.map_nil, List.getD_cons_succ, List.getD_cons_zero]; (repeat go_big_quiet_step (fail)); refine wpQuiet_nil ?_)); unfold wpPlan; intro w5 hb5; (try simp only [pickL, List.map_cons, List.map_nil, List.getD_cons_succ, List.getD_cons_zero])
    have lt1 : cb < w2.heap.size := heap_lt N1.out
    have lt2 : mb < w2.heap.size := heap_lt N2.out
    have ltg : g < w2.heap.size := N4.out.lt g rfl
    have sz3 := HB3.out.size
    have sz4 := q2.size
    have sz5 := hb5.size
    have z1 : w5.heap[cb]? = _ := ((hb5.block cb (by omega)).trans (q2.block cb (by omega) (by simpa using hcg))).trans ((HB3.out.block cb lt1).trans N1.out)
    have z2 : w5.heap[mb]? = _ := ((hb5.block mb (by omega)).trans (q2.block mb (by omega) (by simpa using hmg))).trans ((HB3.out.block mb lt2).trans N2.out)
    have x1 : w5.cell? ⟨cb, 1, none⟩ = some (.slice (some ⟨g, 0, none⟩) L.length cap) := (heap_cell z1 1).trans (by rw [← k4]; rfl)
    have x2 : w5.frozen? ⟨cb, 1, none⟩ = false := by rw [frozen_heap, z1]; rfl
    have Z1 := Lib.hid z1
    have Z2 := Lib.hid z2
    have K5 := Lib.hid (((KK.out.mono (F' := F) (fun x hx => .inl (by rw [h5]; simp at hx; simp [hx]))).ext HB3.out).grown q2 (fun x hx => .inl (by cases hx; rw [h5]; simp [Value.ownBlock]))|>.ext hb5)
    have Q1 := Lib.hid (Owns.ext q1 hb5)
    clear z1 z2 q1 q2 hb5
    go_wp2
    (try refine ⟨fun h => absurd h (by simp), ?_⟩); (repeat (unfold wpPlan; simp only [pickL, List.map_cons, List.map_nil, List.getD_cons_succ, List.getD_cons_zero]; (repeat go_big_quiet_step (fail)); refine wpQuiet_nil ?_)); unfold wpPlan; intro w6 hb6; (try simp only [pickL, List.map_cons, List.map_nil, List.getD_cons_succ, List.getD_cons_zero])
    go_wp2
    refine ⟨rfl, .tuple #[], (by simp [results, Try.results73, go_sem]), ?_⟩
    have y1 := setCell_heap_same (i := 1) (v := .slice a4 (n + (L.length - (n + 1))) c4) Z1.out
    refine ⟨rfl, cb :: mb :: (Value.slice a4 (n + (L.length - (n + 1))) c4).ownBlock.toList, ⟨mb, .slice a4 (n + (L.length - (n + 1))) c4, es', clock, ?_, ?_, ?_, ?_, rfl, ?_, h7, ?_⟩, ?_, ?_⟩
    · rw [hb6.block cb (by simp; exact heap_lt Z1.out), y1]
      rfl
    · rw [hb6.block mb (by simp; exact heap_lt Z2.out), setCell_heap _ _ _ _ _ (Ne.symm hmc)]
      exact Z2.out
    · have e0 : delL ⟨p, l, t⟩ L = L.eraseIdx n := by
        unfold delL
        obtain ⟨x, hx⟩ : ∃ x, L[n]? = some (⟨p, l, t⟩, x) := kAt_get hn hk
        rw [nodup_look H8.out hx 0]
        simp
      rw [← e0]; exact HE.out
    · have e1 : (keysOf (L.eraseIdx n)).length = n + (L.length - (n + 1)) := by rw [keysOf_length, List.length_eraseIdx]; split <;> omega
      rw [e1, keysOf_erase, rowK_append, rowK_take, rowK_drop]
      refine (Q1.out.keep (w' := w5.setCell ⟨cb, 1, none⟩ (.slice a4 (n + (L.length - (n + 1))) c4)) fun x hx => setCell_heap _ _ _ _ _ fun e => ?_).ext hb6
      obtain ⟨c, hc⟩ := Q1.out.heap x hx
      rw [← e, Z1.out] at hc
      cases hc
    · rw [List.length_eraseIdx]; split <;> omega
    · rw [keysOf, ChangeMaps.map_eraseIdx]; exact List.Nodup.sublist (List.eraseIdx_sublist _ _) H8.out
    · exact (K5.out.setCell (.inl (by rw [h5]; simp)) _).ext hb6
    · intro x hx
      simp only [List.mem_cons, Option.mem_toList] at hx
      rcases hx with rfl | rfl | hx
      · exact .inl (by rw [h5]; simp)
      · exact .inl (by rw [h5]; simp)
      · rcases q3 with q3 | q3 <;> rw [q3] at hx <;> cases hx
        · exact .inl (by rw [h5]; simp [Value.ownBlock])
        · have := KK.out.size; exact .inr (by omega)
end Go.Proofs.Ytkfonacokamfiaa
/- Caches: Drop, Evict, Get, Room, Keys, Clear. -/
namespace Go.Proofs.Ytkfonacokamfiaa
set_option linter.unusedVariables false
set_option linter.unusedSimpArgs false
open Go.RowKit
attribute [local go_sem] wext_cell wext_frozen wext_heap alloc_cell alloc_frozen alloc_heap setCell_cell objCell_cells objFrozen_cells
attribute [local go_sem high] key_eql

theorem CAt.ext {w w' : World} {cb : Nat} {F : List Nat} {L : List (Key × Line)} {r : Nat} (h : CAt w cb F L r) (k : Ext w w') : CAt w' cb F L r := by
  obtain ⟨mb, ov, es, clock, h1, h2, h3, h4, h5⟩ := h
  exact ⟨mb, ov, es, clock, (k.block cb (heap_lt h1)).trans h1, (k.block mb (heap_lt h2)).trans h2, h3, h4.ext k, h5⟩
theorem CAt.keeps {w w' : World} {cb : Nat} {F G : List Nat} {L : List (Key × Line)} {r : Nat} (h : CAt w cb F L r) (k : Keeps G w w') (hd : ∀ x ∈ F, x ∉ G) : CAt w' cb F L r := by
  obtain ⟨mb, ov, es, clock, h1, h2, h3, h4, h5, h6⟩ := h
  refine ⟨mb, ov, es, clock, (k.block cb (heap_lt h1) (hd _ (by rw [h5]; simp))).trans h1, (k.block mb (heap_lt h2) (hd _ (by rw [h5]; simp))).trans h2, h3, h4.keep fun g hg => k.block g (h4.lt g hg) (hd _ (by rw [h5]; simp [hg])), h5, h6⟩
theorem CAt.lt {w : World} {cb : Nat} {F : List Nat} {L : List (Key × Line)} {r : Nat} (h : CAt w cb F L r) : ∀ x ∈ F, x < w.heap.size := by
  obtain ⟨mb, ov, es, clock, h1, h2, h3, h4, h5, h6⟩ := h
  intro x hx
  rw [h5] at hx
  simp only [List.mem_cons, Option.mem_toList] at hx
  rcases hx with rfl | rfl | hx
  · exact heap_lt h1
  · exact heap_lt h2
  · exact h4.lt x hx
theorem EndC.none {w w' : World} {cb : Nat} {F : List Nat} {L : List (Key × Line)} {r : Nat} (h : CAt w cb F L r) (k : Ext w w') : EndC cb F w L r (.returned (.tuple #[])) w' :=
  ⟨rfl, F, h.ext k, Keeps.of_ext k, fun _ hx => .inl hx⟩
theorem EndC.after {w w1 w2 : World} {cb : Nat} {F : List Nat} {L : List (Key × Line)} {r : Nat} {e : Ending} (k : Ext w w1) (h : EndC cb F w1 L r e w2) : EndC cb F w L r e w2 := by
  obtain ⟨he, F', h1, h2, h3⟩ := h
  exact ⟨he, F', h1, (Keeps.of_ext k).same h2, fun x hx => (h3 x hx).elim .inl fun h => .inr (Nat.le_trans k.size h)⟩
theorem EndC.before {w w1 w2 : World} {cb : Nat} {F : List Nat} {L : List (Key × Line)} {r : Nat} {e : Ending} (h : EndC cb F w L r e w1) (k : Ext w1 w2) : EndC cb F w L r e w2 := by
  obtain ⟨he, F', h1, h2, h3⟩ := h
  exact ⟨he, F', h1.ext k, h2.ext k, h3⟩

theorem ix_look (k : Key) : ∀ (L : List (Key × Line)) (j : Nat), ixK k (keysOf L) j = match look k L j with | some (i, _) => (i : Int) | none => -1
  | [], j => rfl
  | x :: L, j => by
    have := ix_look k L (j + 1)
    simp only [keysOf, List.map_cons, ixK, look] at *
    split
    · rfl
    · rw [← this]; congr 1

/-- The order's value, as the cell has it. -/
theorem CAt.order {w : World} {cb : Nat} {F : List Nat} {L : List (Key × Line)} {r : Nat} (h : CAt w cb F L r) :
    ∃ mb a cap, w.cell? ⟨cb, 0, none⟩ = some (.map (some mb)) ∧ w.cell? ⟨cb, 1, none⟩ = some (.slice a L.length cap) ∧ w.cell? ⟨cb, 2, none⟩ = some (.int .i64 r) ∧
      Owns w 87 3 (.slice a L.length cap) (keysOf L).length (rowK (keysOf L)) ∧ L.length ≤ cap ∧ cap ≤ 9223372036854775807 ∧ cb < w.heap.size ∧ L.length ≤ r ∧ r ≤ 64 ∧ (L.length = 0 ∨ a.isSome = true) := by
  obtain ⟨mb, ov, es, clock, h1, h2, h3, h4, h5, h6, h7, h8⟩ := h
  have k4 := keysOf_length L
  obtain ⟨a, cap, rfl, hn, hm⟩ := h4.form
  refine ⟨mb, a, cap, (heap_cell h1 0).trans rfl, (heap_cell h1 1).trans (by rw [← k4]; rfl), (heap_cell h1 2).trans rfl, by rw [← k4]; rw [k4]; rw [k4] at h4; exact h4, by omega, by unfold maxLen at hm; omega, heap_lt h1, h6, h7, ?_⟩
  rcases h4.2 with ⟨_, h0⟩ | ⟨g, cap', cur, he, _⟩
  · left; omega
  · right; injection he with e1; rw [e1]; rfl

set_option maxHeartbeats 1000000 in
theorem drop_c (cb : Nat) (F : List Nat) (L : List (Key × Line)) (r : Nat) (k : Key) (w : World) (h : CAt w cb F L r) :
    Calls Try.prog 52 #[.pointer (some ⟨cb, 0, none⟩), k.val] w (EndC cb F w (delL k L) r) := by
  have HC := Lib.hid h
  obtain ⟨mb, a, cap, c0, c1, c2, ho, b1, b2, b3, b4, b5, b6⟩ := h.order
  have HO := Lib.hid ho
  have hix := ix_look k L 0
  obtain ⟨p, l, t⟩ := k
  unfold Key.val
  clear h ho b6 c0 c2
  go_enter Try.func52, Try.ntmps52
  go_upto_region 2 with (fail)
  refine wp_gen ?_; intro W hW
  have hE : Ext w W := by rw [hW]; exact (by repeat (first | exact Ext.refl _ | assumption | refine Ext.alloc ?_ _ | refine Ext.drew ?_ | refine Ext.setCell ?_ (by first | (simp; done) | (dsimp only; omega)) _ | refine Ext.trans ?_ (by assumption)))
  have HE := Lib.hid hE
  have x1 : W.cell? ⟨cb, 1, none⟩ = some (.slice a L.length cap) := by rw [hE.cell _ _ b3]; exact c1
  have x2 : W.cell? ⟨w.heap.size, 0, none⟩ = some (.int .i64 p) := (by rw [hW]; simp [go_sem, ↓IntWalk.iteOmega, *])
  have x3 : W.cell? ⟨w.heap.size, 1, none⟩ = some (.int .i64 l) := (by rw [hW]; simp [go_sem, ↓IntWalk.iteOmega, *])
  have x4 : W.cell? ⟨w.heap.size, 2, none⟩ = some (.int .u64 t) := (by rw [hW]; simp [go_sem, ↓IntWalk.iteOmega, *])
  have x5 : w.heap.size < W.heap.size := (by rw [hW]; (try simp only [World.size_alloc, World.size_setCell, World.size_drew]); omega)
  have b3' : cb < W.heap.size := by omega
  clear hW hE c1
  have HX := Aside.mk hix
  clear hix
  refine region_ext (by kernel_rfl) (by kernel_rfl) ?_; (repeat (go_big_quiet_step ((go_at_call 72; exact calls_wext (indexK_c (keysOf L) ⟨p, l, t⟩ _ _ ((HO.out.ext HE.out).ext (wext_ext _ _))))))); refine wpQuiet_nil ?_; intro w1 hb; have ⟨hc, hf, hh, hs⟩ := hb.facts; try simp only [World.size_alloc, World.size_setCell, World.size_drew] at hs
  have HB := Lib.hid hb
  clear hb hc hf hh
  cases hl : look ⟨p, l, t⟩ L 0 with
  | none =>
    have hi : ixK ⟨p, l, t⟩ (keysOf L) 0 = -1 := by have := HX.out; rw [hl] at this; exact this
    go_wp2
    refine ⟨rfl, .tuple #[], (by simp [results, Try.results52, go_sem]), ?_⟩
    rw [show delL ⟨p, l, t⟩ L = L by unfold delL; rw [hl]]
    exact EndC.none HC.out (HE.out.trans HB.out)
  | some y =>
    obtain ⟨i, y⟩ := y
    have hi : ixK ⟨p, l, t⟩ (keysOf L) 0 = (i : Int) := by have := HX.out; rw [hl] at this; exact this
    have hlt : i < L.length := (List.getElem?_eq_some_iff.1 (look_some hl).2.1).1
    go_wp2_with (first | (go_at_call 73; refine (cut_c cb F L r i _ ((HC.out.ext HE.out).ext HB.out) hlt).mono ?_; rintro e w2 ⟨rfl, hC2⟩))
    refine ⟨rfl, .tuple #[], (by simp [results, Try.results52, go_sem]), ?_⟩
    rw [show delL ⟨p, l, t⟩ L = L.eraseIdx i by unfold delL; rw [hl]]
    exact EndC.after (HE.out.trans HB.out) ⟨rfl, hC2⟩

/-- the place that is picked -/
def pickI (pick n : Int) : Int := pick % n
def evictL (pick : Int) (L : List (Key × Line)) : List (Key × Line) := if L.length = 0 then L else L.eraseIdx (pickI pick L.length).toNat
theorem tmod_mod (a n : Int) : a.tmod n % n = a % n := by
  rw [Int.tmod_def, Int.sub_mul_emod_self_left]

set_option maxHeartbeats 1000000 in
theorem evict_c (cb : Nat) (F : List Nat) (L : List (Key × Line)) (r : Nat) (pick : Int) (w : World) (h : CAt w cb F L r) (hp0 : -9223372036854775808 ≤ pick) (hp1 : pick ≤ 9223372036854775807) :
    Calls Try.prog 57 #[.pointer (some ⟨cb, 0, none⟩), .int .i64 pick] w (EndC cb F w (evictL pick L) r) := by
  have HC := Lib.hid h
  obtain ⟨mb, a, cap, c0, c1, c2, ho, b1, b2, b3, b4, b5, b6⟩ := h.order
  clear h ho b6 c0 c2
  by_cases h0 : L.length = 0
  · go_enter Try.func57, Try.ntmps57
    have hz : ((L.length : Nat) : Int) = 0 := by omega
    go_wp2
    all_goals
      refine ⟨rfl, .tuple #[], (by simp [results, Try.results57, go_sem]), ?_⟩
      rw [show evictL pick L = L by unfold evictL; rw [if_pos h0]]
      exact EndC.none HC.out (by repeat (first | exact Ext.refl _ | assumption | refine Ext.alloc ?_ _ | refine Ext.drew ?_ | refine Ext.setCell ?_ (by first | (simp; done) | (dsimp only; omega)) _ | refine Ext.trans ?_ (by assumption)))
  · go_enter Try.func57, Try.ntmps57
    have hz : (((L.length : Nat) : Int) == 0) = false := by simp; simpa using h0
    have h1 : -(L.length : Int) < pick.tmod L.length := Int.lt_tmod_of_pos pick (by omega)
    have h2 : pick.tmod L.length < L.length := Int.tmod_lt_of_pos pick (by omega)
    have hnz : ¬ ((L.length : Int) = 0) := by omega
    have e1 : 0 ≤ pickI pick L.length := Int.emod_nonneg _ hnz
    have e2 : pickI pick L.length < L.length := Int.emod_lt_of_pos _ (by omega)
    have hq : pick.tmod L.length % L.length = ((pickI pick L.length).toNat : Int) := by rw [tmod_mod]; unfold pickI at *; omega
    have hlt : (pickI pick L.length).toNat < L.length := by omega
    have he : evictL pick L = L.eraseIdx (pickI pick L.length).toNat := by unfold evictL; rw [if_neg h0]
    generalize (pickI pick L.length).toNat = q at hq hlt he
    clear e1 e2
    have HQ := Aside.mk he
    clear he
    go_wp2_with (first | (go_at_call 73; refine (cut_c cb F L r q _ (HC.out.ext (by repeat (first | exact Ext.refl _ | assumption | refine Ext.alloc ?_ _ | refine Ext.drew ?_ | refine Ext.setCell ?_ (by first | (simp; done) | (dsimp only; omega)) _ | refine Ext.trans ?_ (by assumption)))) hlt).mono ?_; rintro e w2 ⟨rfl, hC2⟩))
    all_goals
      refine ⟨rfl, .tuple #[], (by simp [results, Try.results57, go_sem]), ?_⟩
      rw [HQ.out]
      exact ⟨rfl, hC2⟩
end Go.Proofs.Ytkfonacokamfiaa
/- Caches: Get, Room, Keys, Clear, New; of nil. -/
namespace Go.Proofs.Ytkfonacokamfiaa
set_option linter.unusedVariables false
set_option linter.unusedSimpArgs false
open Go.RowKit
attribute [local go_sem] wext_cell wext_frozen wext_heap alloc_cell alloc_frozen alloc_heap setCell_cell objCell_cells objFrozen_cells
attribute [local go_sem high] key_eql

def noLine : Line := ⟨0, false, false, false, false, 0⟩
def getLine (k : Key) (L : List (Key × Line)) : Line := match look k L 0 with | some x => x.2 | none => noLine
def hasK (k : Key) (L : List (Key × Line)) : Bool := (look k L 0).isSome

/-- The map's block. -/
theorem CAt.mapAt {w : World} {cb : Nat} {F : List Nat} {L : List (Key × Line)} {r : Nat} (h : CAt w cb F L r) :
    ∃ mb es clock, w.cell? ⟨cb, 0, none⟩ = some (.map (some mb)) ∧ w.heap[mb]? = some (.map es clock) ∧ EntOk es L ∧ cb < w.heap.size ∧ mb < w.heap.size := by
  obtain ⟨mb, ov, es, clock, h1, h2, h3, h4, h5, h6, h7, h8⟩ := h
  exact ⟨mb, es, clock, (heap_cell h1 0).trans rfl, h2, h3, heap_lt h1, heap_lt h2⟩

set_option maxHeartbeats 1000000 in
theorem get_c (cb : Nat) (F : List Nat) (L : List (Key × Line)) (r : Nat) (k : Key) (w : World) (h : CAt w cb F L r) :
    Calls Try.prog 29 #[.pointer (some ⟨cb, 0, none⟩), k.val] w fun e w' => e = .returned (.tuple #[(getLine k L).val, .bool (hasK k L)]) ∧ Ext w w' := by
  obtain ⟨mb, es, clock, c0, m0, hent, b1, b2⟩ := h.mapAt
  have hlk : ∀ w2, Ext w w2 → (Instr.lookup 115 (.map (some mb)) k.val true).run Try.prog w2 = .ok (.tuple #[(getLine k L).val, .bool (hasK k L)]) w2 := fun w2 hx =>
    lookup_run k w2 mb es clock L (by rw [hx.block _ b2]; exact m0) hent
  obtain ⟨p, l, t⟩ := k
  generalize getLine ⟨p, l, t⟩ L = z at hlk ⊢
  generalize hasK ⟨p, l, t⟩ L = q at hlk ⊢
  obtain ⟨zf, za, zb, zc, zd, zm⟩ := z
  unfold Key.val Line.val at *
  have HL := Lib.hid hlk
  clear h hent m0 hlk
  go_enter Try.func29, Try.ntmps29
  go_upto_region 3 with (fail)
  refine wp_gen ?_; intro W hW
  have hE : Ext w W := by rw [hW]; exact (by repeat (first | exact Ext.refl _ | assumption | refine Ext.alloc ?_ _ | refine Ext.drew ?_ | refine Ext.setCell ?_ (by first | (simp; done) | (dsimp only; omega)) _ | refine Ext.trans ?_ (by assumption)))
  have HX := Lib.hid hE
  have hl2 : ∀ d, (Instr.lookup 115 (.map (some mb)) (.agg #[.int .i64 p, .int .i64 l, .int .u64 t]) true).run Try.prog (wext W d) =
      .ok (.tuple #[.agg #[.int .u64 zf, .bool za, .bool zb, .bool zc, .bool zd, .int .u8 zm], .bool q]) (wext W d) := fun d => HL.out _ (HX.out.trans (wext_ext W d))
  have x1 : W.cell? ⟨cb, 0, none⟩ = some (.map (some mb)) := by rw [hE.cell _ _ b1]; exact c0
  have x2 : W.cell? ⟨w.heap.size, 0, none⟩ = some (.int .i64 p) := (by rw [hW]; simp [go_sem, ↓IntWalk.iteOmega, *])
  have x3 : W.cell? ⟨w.heap.size, 1, none⟩ = some (.int .i64 l) := (by rw [hW]; simp [go_sem, ↓IntWalk.iteOmega, *])
  have x4 : W.cell? ⟨w.heap.size, 2, none⟩ = some (.int .u64 t) := (by rw [hW]; simp [go_sem, ↓IntWalk.iteOmega, *])
  have x5 : w.heap.size + 1 < W.heap.size := (by rw [hW]; (try simp only [World.size_alloc, World.size_setCell, World.size_drew]); omega)
  have n0 : W.heap[w.heap.size + 1]? = some (.cells #[.int .u64 0, .bool false, .bool false, .bool false, .bool false, .int .u8 0] 83 (0, 0)) := by rw [hW]; exact alloc_same1 ..
  have N0 := Lib.hid n0
  clear n0
  have x6 := hE.size
  clear hW hE c0
  refine region_mix [.q [0, 1, 2, 3, 4, 5, 6, 7], .b [8], .l 9 3, .l 10 2, .q [11]] (by kernel_rfl) (by kernel_rfl) ?_
  (try refine ⟨fun h => absurd h (by simp), ?_⟩); (repeat (unfold wpPlan; simp only [pickL, List.map_cons, List.map_nil, List.getD_cons_succ, List.getD_cons_zero]; (repeat go_big_quiet_step (fail)); refine wpQuiet_nil ?_)); unfold wpPlan; intro w1 hb1; (try simp only [pickL, List.map_cons, List.map_nil, List.getD_cons_succ, List.getD_cons_zero])
  have HB1 := Lib.hid hb1
  have s1 := hb1.size
  clear hb1
  go_wp2
  refine ⟨(by repeat (first | exact Ext.refl _ | assumption | refine Ext.alloc ?_ _ | refine Ext.drew ?_ | refine Ext.setCell ?_ (by first | (simp; done) | (dsimp only; omega)) _ | refine Ext.trans ?_ (by assumption))), ?_⟩
  (try refine ⟨fun h => absurd h (by simp), ?_⟩); (repeat (unfold wpPlan; simp only [pickL, List.map_cons, List.map_nil, List.getD_cons_succ, List.getD_cons_zero]; (repeat go_big_quiet_step (fail)); refine wpQuiet_nil ?_)); unfold wpPlan; intro w2 hb2; (try simp only [pickL, List.map_cons, List.map_nil, List.getD_cons_succ, List.getD_cons_zero])
  have s2 := hb2.size
  rw [World.size_alloc] at s2
  have m2 := (hb2.block w1.heap.size (by simp)).trans (alloc_same w1 _)
  have n2 := (hb2.block (w.heap.size + 1) (by simp; omega)).trans ((alloc_other w1 _ (by omega)).trans ((HB1.out.block _ x5).trans N0.out))
  have N2 := Lib.hid n2
  have M2 := Lib.hid m2
  have y0 := (heap_cell m2 0).trans rfl
  have y1 := (heap_cell m2 1).trans rfl
  have y2 := (heap_cell m2 2).trans rfl
  have y3 := (heap_cell m2 3).trans rfl
  have y4 := (heap_cell m2 4).trans rfl
  have y5 := (heap_cell m2 5).trans rfl
  have y6 : ∀ o, w2.frozen? ⟨w1.heap.size, o, none⟩ = false := fun o => by rw [frozen_heap, m2]; simp [objFrozen]
  have HB2 := Lib.hid hb2
  clear hb2 m2 n2
  go_wp2
  (try refine ⟨fun h => absurd h (by simp), ?_⟩); (repeat (unfold wpPlan; simp only [pickL, List.map_cons, List.map_nil, List.getD_cons_succ, List.getD_cons_zero]; (repeat go_big_quiet_step (fail)); refine wpQuiet_nil ?_)); unfold wpPlan; intro w3 hb3; (try simp only [pickL, List.map_cons, List.map_nil, List.getD_cons_succ, List.getD_cons_zero])
  have s3 := hb3.size
  simp only [World.size_setCell] at s3
  have m3 := (hb3.block w1.heap.size (by simp only [World.size_setCell]; omega)).trans (store6_heap M2.out)
  have n3 := (hb3.block (w.heap.size + 1) (by simp only [World.size_setCell]; omega)).trans ((store6_other (by omega)).trans N2.out)
  have N3 := Lib.hid n3
  have E3 : Ext w w3 := (HX.out.trans HB1.out).trans ((ext6 ((Ext.refl w1).alloc _ |>.trans HB2.out) (Nat.le_refl _)).trans hb3)
  clear y0 y1 y2 y3 y4 y5 y6 x1 x2 x3 x4 hl2
  have y0 := (heap_cell m3 0).trans rfl
  have y1 := (heap_cell m3 1).trans rfl
  have y2 := (heap_cell m3 2).trans rfl
  have y3 := (heap_cell m3 3).trans rfl
  have y4 := (heap_cell m3 4).trans rfl
  have y5 := (heap_cell m3 5).trans rfl
  have z0 := (heap_cell n3 0).trans rfl
  have z1 := (heap_cell n3 1).trans rfl
  have z2 := (heap_cell n3 2).trans rfl
  have z3 := (heap_cell n3 3).trans rfl
  have z4 := (heap_cell n3 4).trans rfl
  have z5 := (heap_cell n3 5).trans rfl
  have z6 : ∀ o, w3.frozen? ⟨w.heap.size + 1, o, none⟩ = false := fun o => by rw [frozen_heap, n3]; simp [objFrozen]
  clear m3 n3 hb3
  go_wp2
  refine post_gen (fun V => V.heap[w.heap.size + 1]? = some (.cells #[.int .u64 zf, .bool za, .bool zb, .bool zc, .bool zd, .int .u8 zm] 83 (0, 0)) ∧ Ext w V) ⟨store6_heap N3.out, ext6 E3 (by omega)⟩ ?_
  rintro V ⟨m5, E5⟩
  have v0 := (heap_cell m5 0).trans rfl
  have v1 := (heap_cell m5 1).trans rfl
  have v2 := (heap_cell m5 2).trans rfl
  have v3 := (heap_cell m5 3).trans rfl
  have v4 := (heap_cell m5 4).trans rfl
  have v5 := (heap_cell m5 5).trans rfl
  clear m5
  refine bodyPost_ret (by simp [results, Try.results29, go_sem, ↓IntWalk.iteOmega, *]; try rfl) rfl ⟨rfl, E5⟩
end Go.Proofs.Ytkfonacokamfiaa
