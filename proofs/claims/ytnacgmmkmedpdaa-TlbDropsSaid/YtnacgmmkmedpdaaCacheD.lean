/- Caches: Get, Room, Keys, Clear, New; of nil. -/
import Derived.Test.YtnacgmmkmedpdaaCacheC
namespace Go.Proofs.Ytnacgmmkmedpdaa
set_option linter.unusedVariables false
set_option linter.unusedSimpArgs false
open Go.RowKit
attribute [local go_sem] wext_cell wext_frozen wext_heap alloc_cell alloc_frozen alloc_heap setCell_cell objCell_cells objFrozen_cells
attribute [local go_sem high] key_eql

def noLine : Line := ⟨0, false, false, false, false, 0⟩
def getLine (k : Key) (L : List (Key × Line)) : Line := match look k L 0 with | some x => x.2 | none => noLine
def hasK (k : Key) (L : List (Key × Line)) : Bool := (look k L 0).isSome

/-- The map's block. -/
theorem CAt.mapAt {w : World} {cb : Nat} {F : List Nat} {L : List (Key × Line)} {r : Nat} (h : CAt w cb F L r) :
    ∃ mb es clock, w.cell? ⟨cb, 0, none⟩ = some (.map (some mb)) ∧ w.heap[mb]? = some (.map es clock) ∧ EntOk es L ∧ cb < w.heap.size ∧ mb < w.heap.size := by
  obtain ⟨mb, ov, es, clock, h1, h2, h3, h4, h5, h6, h7, h8⟩ := h
  exact ⟨mb, es, clock, (heap_cell h1 0).trans rfl, h2, h3, heap_lt h1, heap_lt h2⟩

set_option maxHeartbeats 1000000 in
theorem get_c (cb : Nat) (F : List Nat) (L : List (Key × Line)) (r : Nat) (k : Key) (w : World) (h : CAt w cb F L r) :
    Calls Try.prog 29 #[.pointer (some ⟨cb, 0, none⟩), k.val] w fun e w' => e = .returned (.tuple #[(getLine k L).val, .bool (hasK k L)]) ∧ Ext w w' := by
  obtain ⟨mb, es, clock, c0, m0, hent, b1, b2⟩ := h.mapAt
  have hlk : ∀ w2, Ext w w2 → (Instr.lookup 140 (.map (some mb)) k.val true).run Try.prog w2 = .ok (.tuple #[(getLine k L).val, .bool (hasK k L)]) w2 := fun w2 hx =>
    lookup_run k w2 mb es clock L (by rw [hx.block _ b2]; exact m0) hent
  obtain ⟨p, l, t⟩ := k
  generalize getLine ⟨p, l, t⟩ L = z at hlk ⊢
  generalize hasK ⟨p, l, t⟩ L = q at hlk ⊢
  obtain ⟨zf, za, zb, zc, zd, zm⟩ := z
  unfold Key.val Line.val at *
  have HL := Lib.hid hlk
  clear h hent m0 hlk
  go_enter Try.func29, Try.ntmps29
  go_upto_region 3 with (fail)
  refine wp_gen ?_; intro W hW
  have hE : Ext w W := by rw [hW]; exact (by repeat (first | exact Ext.refl _ | assumption | refine Ext.alloc ?_ _ | refine Ext.drew ?_ | refine Ext.setCell ?_ (by first | (simp; done) | (dsimp only; omega)) _ | refine Ext.trans ?_ (by assumption)))
  have HX := Lib.hid hE
  have hl2 : ∀ d, (Instr.lookup 140 (.map (some mb)) (.agg #[.int .i64 p, .int .i64 l, .int .u64 t]) true).run Try.prog (wext W d) =
      .ok (.tuple #[.agg #[.int .u64 zf, .bool za, .bool zb, .bool zc, .bool zd, .int .u8 zm], .bool q]) (wext W d) := fun d => HL.out _ (HX.out.trans (wext_ext W d))
  have x1 : W.cell? ⟨cb, 0, none⟩ = some (.map (some mb)) := by rw [hE.cell _ _ b1]; exact c0
  have x2 : W.cell? ⟨w.heap.size, 0, none⟩ = some (.int .i64 p) := (by rw [hW]; simp [go_sem, ↓IntWalk.iteOmega, *])
  have x3 : W.cell? ⟨w.heap.size, 1, none⟩ = some (.int .i64 l) := (by rw [hW]; simp [go_sem, ↓IntWalk.iteOmega, *])
  have x4 : W.cell? ⟨w.heap.size, 2, none⟩ = some (.int .u64 t) := (by rw [hW]; simp [go_sem, ↓IntWalk.iteOmega, *])
  have x5 : w.heap.size + 1 < W.heap.size := (by rw [hW]; (try simp only [World.size_alloc, World.size_setCell, World.size_drew]); omega)
  have n0 : W.heap[w.heap.size + 1]? = some (.cells #[.int .u64 0, .bool false, .bool false, .bool false, .bool false, .int .u8 0] 38 (0, 0)) := by rw [hW]; exact alloc_same1 ..
  have N0 := Lib.hid n0
  clear n0
  have x6 := hE.size
  clear hW hE c0
  refine region_mix [.q [0, 1, 2, 3, 4, 5, 6, 7], .b [8], .l 9 3, .l 10 2, .q [11]] (by kernel_rfl) (by kernel_rfl) ?_
  (try refine ⟨fun h => absurd h (by simp), ?_⟩); (repeat (unfold wpPlan; simp only [pickL, List.map_cons, List.map_nil, List.getD_cons_succ, List.getD_cons_zero]; (repeat go_big_quiet_step (fail)); refine wpQuiet_nil ?_)); unfold wpPlan; intro w1 hb1; (try simp only [pickL, List.map_cons, List.map_nil, List.getD_cons_succ, List.getD_cons_zero])
  have HB1 := Lib.hid hb1
  have s1 := hb1.size
  clear hb1
  go_wp2
  refine ⟨(by repeat (first | exact Ext.refl _ | assumption | refine Ext.alloc ?_ _ | refine Ext.drew ?_ | refine Ext.setCell ?_ (by first | (simp; done) | (dsimp only; omega)) _ | refine Ext.trans ?_ (by assumption))), ?_⟩
  (try refine ⟨fun h => absurd h (by simp), ?_⟩); (repeat (unfold wpPlan; simp only [pickL, List.map_cons, List.map_nil, List.getD_cons_succ, List.getD_cons_zero]; (repeat go_big_quiet_step (fail)); refine wpQuiet_nil ?_)); unfold wpPlan; intro w2 hb2; (try simp only [pickL, List.map_cons, List.map_nil, List.getD_cons_succ, List.getD_cons_zero])
  have s2 := hb2.size
  rw [World.size_alloc] at s2
  have m2 := (hb2.block w1.heap.size (by simp)).trans (alloc_same w1 _)
  have n2 := (hb2.block (w.heap.size + 1) (by simp; omega)).trans ((alloc_other w1 _ (by omega)).trans ((HB1.out.block _ x5).trans N0.out))
  have N2 := Lib.hid n2
  have M2 := Lib.hid m2
  have y0 := (heap_cell m2 0).trans rfl
  have y1 := (heap_cell m2 1).trans rfl
  have y2 := (heap_cell m2 2).trans rfl
  have y3 := (heap_cell m2 3).trans rfl
  have y4 := (heap_cell m2 4).trans rfl
  have y5 := (heap_cell m2 5).trans rfl
  have y6 : ∀ o, w2.frozen? ⟨w1.heap.size, o, none⟩ = false := fun o => by rw [frozen_heap, m2]; simp [objFrozen]
  have HB2 := Lib.hid hb2
  clear hb2 m2 n2
  go_wp2
  (try refine ⟨fun h => absurd h (by simp), ?_⟩); (repeat (unfold wpPlan; simp only [pickL, List.map_cons, List.map_nil, List.getD_cons_succ, List.getD_cons_zero]; (repeat go_big_quiet_step (fail)); refine wpQuiet_nil ?_)); unfold wpPlan; intro w3 hb3; (try simp only [pickL, List.map_cons, List.map_nil, List.getD_cons_succ, List.getD_cons_zero])
  have s3 := hb3.size
  simp only [World.size_setCell] at s3
  have m3 := (hb3.block w1.heap.size (by simp only [World.size_setCell]; omega)).trans (store6_heap M2.out)
  have n3 := (hb3.block (w.heap.size + 1) (by simp only [World.size_setCell]; omega)).trans ((store6_other (by omega)).trans N2.out)
  have N3 := Lib.hid n3
  have E3 : Ext w w3 := (HX.out.trans HB1.out).trans ((ext6 ((Ext.refl w1).alloc _ |>.trans HB2.out) (Nat.le_refl _)).trans hb3)
  clear y0 y1 y2 y3 y4 y5 y6 x1 x2 x3 x4 hl2
  have y0 := (heap_cell m3 0).trans rfl
  have y1 := (heap_cell m3 1).trans rfl
  have y2 := (heap_cell m3 2).trans rfl
  have y3 := (heap_cell m3 3).trans rfl
  have y4 := (heap_cell m3 4).trans rfl
  have y5 := (heap_cell m3 5).trans rfl
  have z0 := (heap_cell n3 0).trans rfl
  have z1 := (heap_cell n3 1).trans rfl
  have z2 := (heap_cell n3 2).trans rfl
  have z3 := (heap_cell n3 3).trans rfl
  have z4 := (heap_cell n3 4).trans rfl
  have z5 := (heap_cell n3 5).trans rfl
  have z6 : ∀ o, w3.frozen? ⟨w.heap.size + 1, o, none⟩ = false := fun o => by rw [frozen_heap, n3]; simp [objFrozen]
  clear m3 n3 hb3
  go_wp2
  refine post_gen (fun V => V.heap[w.heap.size + 1]? = some (.cells #[.int .u64 zf, .bool za, .bool zb, .bool zc, .bool zd, .int .u8 zm] 38 (0, 0)) ∧ Ext w V) ⟨store6_heap N3.out, ext6 E3 (by omega)⟩ ?_
  rintro V ⟨m5, E5⟩
  have v0 := (heap_cell m5 0).trans rfl
  have v1 := (heap_cell m5 1).trans rfl
  have v2 := (heap_cell m5 2).trans rfl
  have v3 := (heap_cell m5 3).trans rfl
  have v4 := (heap_cell m5 4).trans rfl
  have v5 := (heap_cell m5 5).trans rfl
  clear m5
  refine bodyPost_ret (by simp [results, Try.results29, go_sem, ↓IntWalk.iteOmega, *]; try rfl) rfl ⟨rfl, E5⟩
end Go.Proofs.Ytnacgmmkmedpdaa
