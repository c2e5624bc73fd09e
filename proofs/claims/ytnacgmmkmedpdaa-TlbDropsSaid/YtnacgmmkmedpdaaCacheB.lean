/- Caches: what a cache is in memory; cut, Drop, Evict. -/
import Derived.Test.YtnacgmmkmedpdaaCacheA
import Derived.Test.YtnacgmmkmedpdaaMix
namespace Go.Proofs.Ytnacgmmkmedpdaa
set_option linter.unusedVariables false
set_option linter.unusedSimpArgs false
open Go.RowKit
attribute [local go_sem] wext_cell wext_frozen wext_heap alloc_cell alloc_frozen alloc_heap setCell_cell objCell_cells objFrozen_cells
attribute [local go_sem high] key_eql

def keysOf (L : List (Key × Line)) : List Key := L.map (·.1)
theorem keysOf_length (L : List (Key × Line)) : (keysOf L).length = L.length := by simp [keysOf]

/-- The cache in block cb, its blocks, its lines in turn, its room. -/
def CAt (w : World) (cb : Nat) (F : List Nat) (L : List (Key × Line)) (r : Nat) : Prop :=
  ∃ mb ov es clock, w.heap[cb]? = some (.cells #[.map (some mb), ov, .int .i64 r] 142 (0, 0)) ∧ w.heap[mb]? = some (.map es clock) ∧ EntOk es L ∧
    Owns w 34 3 ov (keysOf L).length (rowK (keysOf L)) ∧ F = cb :: mb :: ov.ownBlock.toList ∧ L.length ≤ r ∧ r ≤ 64 ∧ (keysOf L).Nodup

/-- What an operation leaves. -/
def EndC (cb : Nat) (F : List Nat) (w : World) (L' : List (Key × Line)) (r : Nat) (e : Ending) (w' : World) : Prop :=
  e = .returned (.tuple #[]) ∧ ∃ F', CAt w' cb F' L' r ∧ Keeps F w w' ∧ ∀ x ∈ F', x ∈ F ∨ w.heap.size ≤ x

theorem heap_cell {w : World} {b : Nat} {c : Array Value} {e : TypeId} {f : Nat × Nat} (h : w.heap[b]? = some (.cells c e f)) (i : Nat) : w.cell? ⟨b, i, none⟩ = c[i]? := by
  rw [cell_heap, h]; rfl
theorem heap_lt {w : World} {b : Nat} {o : Obj} (h : w.heap[b]? = some o) : b < w.heap.size := (Array.getElem?_eq_some_iff.1 h).1

theorem nodup_look {k : Key} {x : Line} : ∀ {L : List (Key × Line)} {i : Nat}, (keysOf L).Nodup → L[i]? = some (k, x) → ∀ j, look k L j = some (i + j, x)
  | [], i, _, h, _ => by simp at h
  | y :: L, 0, _, h, j => by
    obtain rfl : y = (k, x) := by simpa using h
    simp [look]
  | y :: L, i + 1, hn, h, j => by
    have hn2 := List.nodup_cons.1 hn
    have h2 : L[i]? = some (k, x) := by simpa using h
    have hne : k ≠ y.1 := fun e => hn2.1 (by
      exact List.mem_map.2 ⟨(k, x), List.mem_of_getElem? h2, e⟩)
    unfold look
    rw [if_neg hne, nodup_look hn2.2 h2 (j + 1)]
    congr 2; omega

theorem kAt_get {k : Key} {L : List (Key × Line)} {n : Nat} (hn : n < L.length) (h : kAt (keysOf L) n = k) : ∃ x, L[n]? = some (k, x) := by
  refine ⟨(L[n]).2, ?_⟩
  rw [← h]
  simp [kAt, keysOf, List.getD, hn]
theorem keysOf_erase (L : List (Key × Line)) (n : Nat) : keysOf (L.eraseIdx n) = (keysOf L).take n ++ (keysOf L).drop (n + 1) := by
  rw [keysOf, ChangeMaps.map_eraseIdx, List.eraseIdx_eq_take_drop_succ]; rfl

set_option maxHeartbeats 1000000 in
theorem cut_c (cb : Nat) (F : List Nat) (L : List (Key × Line)) (r n : Nat) (w : World) (h : CAt w cb F L r) (hn : n < L.length) :
    Calls Try.prog 83 #[.pointer (some ⟨cb, 0, none⟩), .int .i64 n] w (EndC cb F w (L.eraseIdx n) r) := by
  obtain ⟨mb, ov, es, clock, h1, h2, h3, h4, h5, h6, h7, h8⟩ := h
  have hn' : n < (keysOf L).length := by rw [keysOf_length]; exact hn
  obtain ⟨g, cap, cur, rfl, hg, hnc, hcm, hcs, htake⟩ := h4.2.resolve_left (fun h => by omega)
  obtain ⟨c0, c1, c2⟩ := rowK_get (keysOf L) n hn'
  have d0 := h4.cells (g := g) rfl _ _ c0
  have d1 := h4.cells (g := g) rfl _ _ c1
  have d2 := h4.cells (g := g) rfl _ _ c2
  have e0 := fun d => wext_some (d := d) d0
  have e1 := fun d => wext_some (d := d) d1
  have e2 := fun d => wext_some (d := d) d2
  have a0 : ∀ d, (wext w d).cell? ⟨cb, 0, none⟩ = some (.map (some mb)) := fun d => wext_some (d := d) ((heap_cell h1 0).trans rfl)
  have a1 : ∀ d, (wext w d).cell? ⟨cb, 1, none⟩ = some (.slice (some ⟨g, 0, none⟩) (keysOf L).length cap) := fun d => wext_some (d := d) ((heap_cell h1 1).trans rfl)
  have k4 := keysOf_length L
  have hcap : cap ≤ 9223372036854775807 := by unfold maxLen at hcm; omega
  have H1 := Lib.hid h1
  have H2 := Lib.hid h2
  have H3 := Lib.hid h3
  have H4 := Lib.hid h4
  have H8 := Lib.hid h8
  clear h1 h2 h3 h4 h8 c0 c1 c2 d0 d1 d2 hg hcs htake hcm
  generalize hk : kAt (keysOf L) n = kk at e0 e1 e2
  obtain ⟨p, l, t⟩ := kk
  go_enter Try.func83, Try.ntmps83
  go_upto_region 0 with (fail)
  refine region_mix [.q [0, 1, 2, 3, 4, 5, 6, 7, 8, 9, 10], .l 11 2] (by kernel_rfl) (by kernel_rfl) ?_
  (try refine ⟨fun h => absurd h (by simp), ?_⟩); (repeat (unfold wpPlan; simp only [pickL, List.map_cons, List.map_nil, List.getD_cons_succ, List.getD_cons_zero]; (repeat go_big_quiet_step (fail)); refine wpQuiet_nil ?_)); unfold wpPlan; intro w1 hb1; (try simp only [pickL, List.map_cons, List.map_nil, List.getD_cons_succ, List.getD_cons_zero])
  have m1 : w1.heap[mb]? = some (.map es clock) := by rw [hb1.block _ (heap_lt H2.out)]; exact H2.out
  obtain ⟨es', hdel, hent⟩ := delete_run ⟨p, l, t⟩ w1 mb es clock L m1 H3.out
  unfold Key.val at hdel
  have HE := Lib.hid hent
  clear hent
  go_wp2
  (try refine ⟨fun h => absurd h (by simp), ?_⟩); (repeat (unfold wpPlan; simp only [pickL, List.map_cons, List.map_nil, List.getD_cons_succ, List.getD_cons_zero]; (repeat go_big_quiet_step (fail)); refine wpQuiet_nil ?_)); unfold wpPlan; intro w2 hb2; (try simp only [pickL, List.map_cons, List.map_nil, List.getD_cons_succ, List.getD_cons_zero])
  have hmc : mb ≠ cb := fun e => by have := H1.out; rw [← e, H2.out] at this; cases this
  have hmg : mb ≠ g := fun e => by obtain ⟨c, hc⟩ := H4.out.heap g rfl; rw [← e, H2.out] at hc; cases hc
  have hcg : cb ≠ g := fun e => by obtain ⟨c, hc⟩ := H4.out.heap g rfl; rw [← e, H1.out] at hc; cases hc
  have s1 : (putBlk w1 mb (.map es' clock)).heap.size = w1.heap.size := putBlk_size ..
  have lt1 := heap_lt H1.out
  have lt2 := heap_lt H2.out
  have ltg := H4.out.lt g rfl
  have sz1 := hb1.size
  have n1 : w2.heap[cb]? = _ := ((hb2.block cb (by omega)).trans (putBlk_heap _ _ _ _ hmc)).trans ((hb1.block cb lt1).trans H1.out)
  have n2 : w2.heap[mb]? = _ := (hb2.block mb (by omega)).trans (putBlk_same _ _ _ (by omega))
  have n4 : Owns w2 _ 3 _ _ _ := H4.out.keep (w' := w2) fun x hx => by
    cases hx
    exact ((hb2.block g (by omega)).trans (putBlk_heap _ _ _ _ hmg)).trans (hb1.block g ltg)
  have K2 : Keeps [mb] w w2 := ((Keeps.of_ext hb1).put (.inl (by simp)) _).ext hb2
  clear hdel m1 hb1 hb2 s1 sz1 e0 e1 e2 a0 a1
  have a1 : ∀ d, (wext w2 d).cell? ⟨cb, 1, none⟩ = some (.slice (some ⟨g, 0, none⟩) L.length cap) := fun d => wext_some (d := d) ((heap_cell n1 1).trans (by rw [← k4]; rfl))
  rw [k4] at hnc
  have N1 := Lib.hid n1
  have N2 := Lib.hid n2
  have N4 := Lib.hid n4
  have KK := Lib.hid K2
  clear n1 n2 n4 K2
  have hT : ∀ w3, Ext w2 w3 → Owns w3 34 3 (.slice (some ⟨g, 0, none⟩) n n) n ((rowK (keysOf L)).take (n * 3)) := fun w3 hx => (N4.out.ext hx).take rfl n (by omega)
  have hlen : ((rowK (keysOf L)).drop ((n + 1) * 3)).length = (L.length - (n + 1)) * 3 := by rw [List.length_drop, rowK_length, keysOf_length]; omega
  have hone : ∀ u ∈ (rowK (keysOf L)).drop ((n + 1) * 3), u.oneCell' = true := fun u hu => rowK_one _ u (List.mem_of_mem_drop hu)
  have hS : ∀ A : Addr, (A = ⟨g, (n + 1) * 3, none⟩ ∨ L.length = n + 1) → ∀ w3, Ext w2 w3 → ∀ j u, ((rowK (keysOf L)).drop ((n + 1) * 3))[j]? = some u → w3.cell? (A.add j) = some u := by
    intro A hA w3 hx j u hu
    rcases hA with rfl | hA
    · rw [List.getElem?_drop] at hu
      have : (⟨g, (n + 1) * 3, none⟩ : Addr).add j = ⟨g, (n + 1) * 3 + j, none⟩ := by unfold Addr.add; split <;> simp_all
      rw [this]
      exact (N4.out.ext hx).cells rfl _ _ hu
    · exfalso
      have h2 := (List.getElem?_eq_some_iff.1 hu).1
      rw [hlen] at h2; omega
  have HT := Lib.hid hT
  have HL := Lib.hid hlen
  have HO := Lib.hid hone
  have HS := Lib.hid hS
  clear hT hlen hone hS
  by_cases hce : cap = n + 1
  all_goals
    go_upto_region 1 with (fail)
    refine region_mix [.b [0], .q [1, 2, 3, 4, 5, 6, 7, 8, 9, 10, 11, 12, 13, 14], .l 15 2, .q [16, 17], .l 18 2] (by kernel_rfl) (by kernel_rfl) ?_
    (try refine ⟨fun h => absurd h (by simp), ?_⟩); (repeat (unfold wpPlan; simp only [pickL, List.map_cons, List.map_nil, List.getD_cons_succ, List.getD_cons_zero]; (repeat go_big_quiet_step (fail)); refine wpQuiet_nil ?_)); unfold wpPlan; intro w3 hb3; (try simp only [pickL, List.map_cons, List.map_nil, List.getD_cons_succ, List.getD_cons_zero])
    have HB3 := Lib.hid hb3
    clear hb3
    go_wp2_with (first | (at_builtin; refine wpList_append_owns rfl _ _ _ _ 3 24 keyRow rfl _ rfl n _ (HT.out w3 HB3.out) _ _ _ rfl _ HL.out (HS.out _ (by first | (left; rfl) | (right; omega)) w3 HB3.out) HO.out (by unfold maxLen; omega) (by omega) ?_; intro v4 w4 q1 q2 q3; replace q2 : w3.grownBy w4 (some g) := q2; replace q3 : v4.ownBlock = some g ∨ v4.ownBlock = some w3.heap.size := q3; obtain ⟨a4, c4, rfl, -, -⟩ := q1.form; simp only [Act.put, Array.set!_eq_setIfInBounds, List.setIfInBounds_toArray, List.set_cons_succ, List.set_cons_zero]))
    (try refine ⟨fun h => absurd h (by simp), ?_⟩); (repeat (unfold wpPlan; simp only [pickL, List.map_cons, List.map_nil, List.getD_cons_succ, List.getD_cons_zero]; (repeat go_big_quiet_step (fail)); refine wpQuiet_nil ?_)); unfold wpPlan; intro w5 hb5; (try simp only [pickL, List.map_cons, List.map_nil, List.getD_cons_succ, List.getD_cons_zero])
    have lt1 : cb < w2.heap.size := heap_lt N1.out
    have lt2 : mb < w2.heap.size := heap_lt N2.out
    have ltg : g < w2.heap.size := N4.out.lt g rfl
    have sz3 := HB3.out.size
    have sz4 := q2.size
    have sz5 := hb5.size
    have z1 : w5.heap[cb]? = _ := ((hb5.block cb (by omega)).trans (q2.block cb (by omega) (by simpa using hcg))).trans ((HB3.out.block cb lt1).trans N1.out)
    have z2 : w5.heap[mb]? = _ := ((hb5.block mb (by omega)).trans (q2.block mb (by omega) (by simpa using hmg))).trans ((HB3.out.block mb lt2).trans N2.out)
    have x1 : w5.cell? ⟨cb, 1, none⟩ = some (.slice (some ⟨g, 0, none⟩) L.length cap) := (heap_cell z1 1).trans (by rw [← k4]; rfl)
    have x2 : w5.frozen? ⟨cb, 1, none⟩ = false := by rw [frozen_heap, z1]; rfl
    have Z1 := Lib.hid z1
    have Z2 := Lib.hid z2
    have K5 := Lib.hid (((KK.out.mono (F' := F) (fun x hx => .inl (by rw [h5]; simp at hx; simp [hx]))).ext HB3.out).grown q2 (fun x hx => .inl (by cases hx; rw [h5]; simp [Value.ownBlock]))|>.ext hb5)
    have Q1 := Lib.hid (Owns.ext q1 hb5)
    clear z1 z2 q1 q2 hb5
    go_wp2
    (try refine ⟨fun h => absurd h (by simp), ?_⟩); (repeat (unfold wpPlan; simp only [pickL, List.map_cons, List.map_nil, List.getD_cons_succ, List.getD_cons_zero]; (repeat go_big_quiet_step (fail)); refine wpQuiet_nil ?_)); unfold wpPlan; intro w6 hb6; (try simp only [pickL, List.map_cons, List.map_nil, List.getD_cons_succ, List.getD_cons_zero])
    go_wp2
    refine ⟨rfl, .tuple #[], (by simp [results, Try.results83, go_sem]), ?_⟩
    have y1 := setCell_heap_same (i := 1) (v := .slice a4 (n + (L.length - (n + 1))) c4) Z1.out
    refine ⟨rfl, cb :: mb :: (Value.slice a4 (n + (L.length - (n + 1))) c4).ownBlock.toList, ⟨mb, .slice a4 (n + (L.length - (n + 1))) c4, es', clock, ?_, ?_, ?_, ?_, rfl, ?_, h7, ?_⟩, ?_, ?_⟩
    · rw [hb6.block cb (by simp; exact heap_lt Z1.out), y1]
      rfl
    · rw [hb6.block mb (by simp; exact heap_lt Z2.out), setCell_heap _ _ _ _ _ (Ne.symm hmc)]
      exact Z2.out
    · have e0 : delL ⟨p, l, t⟩ L = L.eraseIdx n := by
        unfold delL
        obtain ⟨x, hx⟩ : ∃ x, L[n]? = some (⟨p, l, t⟩, x) := kAt_get hn hk
        rw [nodup_look H8.out hx 0]
        simp
      rw [← e0]; exact HE.out
    · have e1 : (keysOf (L.eraseIdx n)).length = n + (L.length - (n + 1)) := by rw [keysOf_length, List.length_eraseIdx]; split <;> omega
      rw [e1, keysOf_erase, rowK_append, rowK_take, rowK_drop]
      refine (Q1.out.keep (w' := w5.setCell ⟨cb, 1, none⟩ (.slice a4 (n + (L.length - (n + 1))) c4)) fun x hx => setCell_heap _ _ _ _ _ fun e => ?_).ext hb6
      obtain ⟨c, hc⟩ := Q1.out.heap x hx
      rw [← e, Z1.out] at hc
      cases hc
    · rw [List.length_eraseIdx]; split <;> omega
    · rw [keysOf, ChangeMaps.map_eraseIdx]; exact List.Nodup.sublist (List.eraseIdx_sublist _ _) H8.out
    · exact (K5.out.setCell (.inl (by rw [h5]; simp)) _).ext hb6
    · intro x hx
      simp only [List.mem_cons, Option.mem_toList] at hx
      rcases hx with rfl | rfl | hx
      · exact .inl (by rw [h5]; simp)
      · exact .inl (by rw [h5]; simp)
      · rcases q3 with q3 | q3 <;> rw [q3] at hx <;> cases hx
        · exact .inl (by rw [h5]; simp [Value.ownBlock])
        · have := KK.out.size; exact .inr (by omega)
end Go.Proofs.Ytnacgmmkmedpdaa
