/- Joined texts, part 14 of what the law stands on: each as its own head says. -/
import Derived.Test.YtakkjpdolkokfaaPln13
/- Caches: Get, Room, Keys, Clear, New; of nil. -/
namespace Go.Proofs.Ytakkjpdolkokfaa
set_option linter.unusedVariables false
set_option linter.unusedSimpArgs false
open Go.RowKit
attribute [local go_sem] wext_cell wext_frozen wext_heap alloc_cell alloc_frozen alloc_heap setCell_cell objCell_cells objFrozen_cells
attribute [local go_sem high] key_eql

def noLine : Line := ⟨0, false, false, false, false, 0⟩
def getLine (k : Key) (L : List (Key × Line)) : Line := match look k L 0 with | some x => x.2 | none => noLine
def hasK (k : Key) (L : List (Key × Line)) : Bool := (look k L 0).isSome

/-- The map's block. -/
theorem CAt.mapAt {w : World} {cb : Nat} {F : List Nat} {L : List (Key × Line)} {r : Nat} (h : CAt w cb F L r) :
    ∃ mb es clock, w.cell? ⟨cb, 0, none⟩ = some (.map (some mb)) ∧ w.heap[mb]? = some (.map es clock) ∧ EntOk es L ∧ cb < w.heap.size ∧ mb < w.heap.size := by
  obtain ⟨mb, ov, es, clock, h1, h2, h3, h4, h5, h6, h7, h8⟩ := h
  exact ⟨mb, es, clock, (heap_cell h1 0).trans rfl, h2, h3, heap_lt h1, heap_lt h2⟩

set_option maxHeartbeats 1000000 in
theorem get_c (cb : Nat) (F : List Nat) (L : List (Key × Line)) (r : Nat) (k : Key) (w : World) (h : CAt w cb F L r) :
    Calls Try.prog 46 #[.pointer (some ⟨cb, 0, none⟩), k.val] w fun e w' => e = .returned (.tuple #[(getLine k L).val, .bool (hasK k L)]) ∧ Ext w w' := by
  obtain ⟨mb, es, clock, c0, m0, hent, b1, b2⟩ := h.mapAt
  have hlk : ∀ w2, Ext w w2 → (Instr.lookup 161 (.map (some mb)) k.val true).run Try.prog w2 = .ok (.tuple #[(getLine k L).val, .bool (hasK k L)]) w2 := fun w2 hx =>
    lookup_run k w2 mb es clock L (by rw [hx.block _ b2]; exact m0) hent
  obtain ⟨p, l, t⟩ := k
  generalize getLine ⟨p, l, t⟩ L = z at hlk ⊢
  generalize hasK ⟨p, l, t⟩ L = q at hlk ⊢
  obtain ⟨zf, za, zb, zc, zd, zm⟩ := z
  unfold Key.val Line.val at *
  have HL := Lib.hid hlk
  clear h hent m0 hlk
  go_enter Try.func46, Try.ntmps46
  go_upto_region 3 with (fail)
  refine wp_gen ?_; intro W hW
  have hE : Ext w W := by rw [hW]; exact (by repeat (first | exact Ext.refl _ | assumption | refine Ext.alloc ?_ _ | refine Ext.drew ?_ | refine Ext.setCell ?_ (by first | (simp; done) | (dsimp only; omega)) _ | refine Ext.trans ?_ (by assumption)))
  have HX := Lib.hid hE
  have hl2 : ∀ d, (Instr.lookup 161 (.map (some mb)) (.agg #[.int .i64 p, .int .i64 l, .int .u64 t]) true).run Try.prog (wext W d) =
      .ok (.tuple #[.agg #[.int .u64 zf, .bool za, .bool zb, .bool zc, .bool zd, .int .u8 zm], .bool q]) (wext W d) := fun d => HL.out _ (HX.out.trans (wext_ext W d))
  have x1 : W.cell? ⟨cb, 0, none⟩ = some (.map (some mb)) := by rw [hE.cell _ _ b1]; exact c0
  have x2 : W.cell? ⟨w.heap.size, 0, none⟩ = some (.int .i64 p) := (by rw [hW]; simp [go_sem, ↓IntWalk.iteOmega, *])
  have x3 : W.cell? ⟨w.heap.size, 1, none⟩ = some (.int .i64 l) := (by rw [hW]; simp [go_sem, ↓IntWalk.iteOmega, *])
  have x4 : W.cell? ⟨w.heap.size, 2, none⟩ = some (.int .u64 t) := (by rw [hW]; simp [go_sem, ↓IntWalk.iteOmega, *])
  have x5 : w.heap.size + 1 < W.heap.size := (by rw [hW]; (try simp only [World.size_alloc, World.size_setCell, World.size_drew]); omega)
  have n0 : W.heap[w.heap.size + 1]? = some (.cells #[.int .u64 0, .bool false, .bool false, .bool false, .bool false, .int .u8 0] 117 (0, 0)) := by rw [hW]; exact alloc_same1 ..
  have N0 := Lib.hid n0
  clear n0
  have x6 := hE.size
  clear hW hE c0
  refine region_mix [.q [0, 1, 2, 3, 4, 5, 6, 7], .b [8], .l 9 3, .l 10 2, .q [11]] (by kernel_rfl) (by kernel_rfl) ?_
  (try refine ⟨fun h => absurd h (by simp), ?_⟩); (repeat (unfold wpPlan; simp only [pickL, List.map_cons, List.map_nil, List.getD_cons_succ, List.getD_cons_zero]; (repeat go_big_quiet_step (fail)); refine wpQuiet_nil ?_)); unfold wpPlan; intro w1 hb1; (try simp only [pickL, List.map_cons, List.map_nil, List.getD_cons_succ, List.getD_cons_zero])
  have HB1 := Lib.hid hb1
  have s1 := hb1.size
  clear hb1
  go_wp2
  refine ⟨(by repeat (first | exact Ext.refl _ | assumption | refine Ext.alloc ?_ _ | refine Ext.drew ?_ | refine Ext.setCell ?_ (by first | (simp; done) | (dsimp only; omega)) _ | refine Ext.trans ?_ (by assumption))), ?_⟩
  (try refine ⟨fun h => absurd h (by simp), ?_⟩); (repeat (unfold wpPlan; simp only [pickL, List.map_cons, List.map_nil, List.getD_cons_succ, List.getD_cons_zero]; (repeat go_big_quiet_step (fail)); refine wpQuiet_nil ?_)); unfold wpPlan; intro w2 hb2; (try simp only [pickL, List.map_cons, List.map_nil, List.getD_cons_succ, List.getD_cons_zero])
  have s2 := hb2.size
  rw [World.size_alloc] at s2
  have m2 := (hb2.block w1.heap.size (by simp)).trans (alloc_same w1 _)
  have n2 := (hb2.block (w.heap.size + 1) (by simp; omega)).trans ((alloc_other w1 _ (by omega)).trans ((HB1.out.block _ x5).trans N0.out))
  have N2 := Lib.hid n2
  have M2 := Lib.hid m2
  have y0 := (heap_cell m2 0).trans rfl
  have y1 := (heap_cell m2 1).trans rfl
  have y2 := (heap_cell m2 2).trans rfl
  have y3 := (heap_cell m2 3).trans rfl
  have y4 := (heap_cell m2 4).trans rfl
  have y5 := (heap_cell m2 5).trans rfl
  have y6 : ∀ o, w2.frozen? ⟨w1.heap.size, o, none⟩ = false := fun o => by rw [frozen_heap, m2]; simp [objFrozen]
  have HB2 := Lib.hid hb2
  clear hb2 m2 n2
  go_wp2
  (try refine ⟨fun h => absurd h (by simp), ?_⟩); (repeat (unfold wpPlan; simp only [pickL, List.map_cons, List.map_nil, List.getD_cons_succ, List.getD_cons_zero]; (repeat go_big_quiet_step (fail)); refine wpQuiet_nil ?_)); unfold wpPlan; intro w3 hb3; (try simp only [pickL, List.map_cons, List.map_nil, List.getD_cons_succ, List.getD_cons_zero])
  have s3 := hb3.size
  simp only [World.size_setCell] at s3
  have m3 := (hb3.block w1.heap.size (by simp only [World.size_setCell]; omega)).trans (store6_heap M2.out)
  have n3 := (hb3.block (w.heap.size + 1) (by simp only [World.size_setCell]; omega)).trans ((store6_other (by omega)).trans N2.out)
  have N3 := Lib.hid n3
  have E3 : Ext w w3 := (HX.out.trans HB1.out).trans ((ext6 ((Ext.refl w1).alloc _ |>.trans HB2.out) (Nat.le_refl _)).trans hb3)
  clear y0 y1 y2 y3 y4 y5 y6 x1 x2 x3 x4 hl2
  have y0 := (heap_cell m3 0).trans rfl
  have y1 := (heap_cell m3 1).trans rfl
  have y2 := (heap_cell m3 2).trans rfl
  have y3 := (heap_cell m3 3).trans rfl
  have y4 := (heap_cell m3 4).trans rfl
  have y5 := (heap_cell m3 5).trans rfl
  have z0 := (heap_cell n3 0).trans rfl
  have z1 := (heap_cell n3 1).trans rfl
  have z2 := (heap_cell n3 2).trans rfl
  have z3 := (heap_cell n3 3).trans rfl
  have z4 := (heap_cell n3 4).trans rfl
  have z5 := (heap_cell n3 5).trans rfl
  have z6 : ∀ o, w3.frozen? ⟨w.heap.size + 1, o, none⟩ = false := fun o => by rw [frozen_heap, n3]; simp [objFrozen]
  clear m3 n3 hb3
  go_wp2
  refine post_gen (fun V => V.heap[w.heap.size + 1]? = some (.cells #[.int .u64 zf, .bool za, .bool zb, .bool zc, .bool zd, .int .u8 zm] 117 (0, 0)) ∧ Ext w V) ⟨store6_heap N3.out, ext6 E3 (by omega)⟩ ?_
  rintro V ⟨m5, E5⟩
  have v0 := (heap_cell m5 0).trans rfl
  have v1 := (heap_cell m5 1).trans rfl
  have v2 := (heap_cell m5 2).trans rfl
  have v3 := (heap_cell m5 3).trans rfl
  have v4 := (heap_cell m5 4).trans rfl
  have v5 := (heap_cell m5 5).trans rfl
  clear m5
  refine bodyPost_ret (by simp [results, Try.results46, go_sem, ↓IntWalk.iteOmega, *]; try rfl) rfl ⟨rfl, E5⟩
end Go.Proofs.Ytakkjpdolkokfaa
/- Caches: Room, Keys, Clear, New; of nil. -/
namespace Go.Proofs.Ytakkjpdolkokfaa
set_option linter.unusedVariables false
set_option linter.unusedSimpArgs false
open Go.RowKit
attribute [local go_sem] wext_cell wext_frozen wext_heap alloc_cell alloc_frozen alloc_heap setCell_cell objCell_cells objFrozen_cells
attribute [local go_sem high] key_eql

theorem keys_c (cb : Nat) (F : List Nat) (L : List (Key × Line)) (r : Nat) (w : World) (h : CAt w cb F L r) :
    Calls Try.prog 50 #[.pointer (some ⟨cb, 0, none⟩)] w (EndKeys w (keysOf L)) := by
  obtain ⟨mb, a, cap, c0, c1, c2, ho, b1, b2, b3, b4, b5, b6⟩ := h.order
  have HO := Lib.hid ho
  have k4 := keysOf_length L
  have hl : (keysOf L).length ≤ 1000 := by omega
  clear h ho c0 c2 b6
  go_enter Try.func50, Try.ntmps50
  go_wp2_with (first | (go_at_call 87; refine (cloneK_c (keysOf L) _ _ (HO.out.ext (by repeat (first | exact Ext.refl _ | assumption | refine Ext.alloc ?_ _ | refine Ext.drew ?_ | refine Ext.setCell ?_ (by first | (simp; done) | (dsimp only; omega)) _ | refine Ext.trans ?_ (by assumption)))) hl).mono ?_; rintro e w1 ⟨v, rfl, q1, q2, q3⟩))
  all_goals
    go_ret
    exact ⟨v, rfl, q1, q2, q3⟩

def clampR (room : Int) : Nat := if room < 0 then 0 else if 64 < room then 64 else room.toNat
theorem clampR_le (r : Int) : clampR r ≤ 64 := by
  unfold clampR
  split
  · omega
  · split <;> omega
def EndNew (room : Int) (w : World) (e : Ending) (w' : World) : Prop :=
  ∃ cb F, e = .returned (.pointer (some ⟨cb, 0, none⟩)) ∧ CAt w' cb F [] (clampR room) ∧ Ext w w' ∧ ∀ x ∈ F, w.heap.size ≤ x
theorem new_c (room : Int) (w : World) (h0 : -9223372036854775808 ≤ room) (h1 : room ≤ 9223372036854775807) :
    Calls Try.prog 33 #[.int .i64 room] w (EndNew room w) := by
  have hmk : ∀ w, (Instr.makeMap 161 none).run Try.prog w = .ok (.map (some w.heap.size)) (w.alloc (.map #[] 0)) := fun _ => rfl
  go_enter Try.func33, Try.ntmps33
  go_wp2
  all_goals
    go_ret
    refine ⟨w.heap.size + 1, [w.heap.size + 1, w.heap.size], rfl, ⟨w.heap.size, .slice none 0 0, #[], 0, ?_, ?_, rfl, Owns.nil .., rfl, Nat.zero_le _, clampR_le _, List.nodup_nil⟩, (by repeat (first | exact Ext.refl _ | assumption | refine Ext.alloc ?_ _ | refine Ext.drew ?_ | refine Ext.setCell ?_ (by first | (simp; done) | (dsimp only; omega)) _ | refine Ext.trans ?_ (by assumption))), by simp⟩
    · rw [alloc_same1]
      unfold clampR
      first | (rw [if_pos (by omega)]; rfl) | (rw [if_neg (by omega), if_pos (by omega)]; rfl) | (rw [if_neg (by omega), if_neg (by omega), Int.toNat_of_nonneg (by omega)])
    · rw [alloc_other _ _ (by simp), alloc_same]

theorem clear_run (w : World) (mb : Nat) (es : Array MapEntry) (clock : Nat) (hb : w.heap[mb]? = some (.map es clock)) (ty : TypeId) :
    (Builtin.clear_ #[161] ty #[.map (some mb)]).run Try.prog w = .ok (.tuple #[]) (putBlk w mb (.map #[] clock)) := by
  simp [Builtin.clear_, run_underlying Try.underlying161, getObj_at hb, setObj_at _ hb]

theorem clear_c (cb : Nat) (F : List Nat) (L : List (Key × Line)) (r : Nat) (w : World) (h : CAt w cb F L r) :
    Calls Try.prog 82 #[.pointer (some ⟨cb, 0, none⟩)] w (EndC cb F w [] r) := by
  obtain ⟨mb, ov, es, clock, h1, h2, h3, h4, h5, h6, h7, h8⟩ := h
  obtain ⟨a, cap, rfl, hn, hm⟩ := h4.form
  have c0 := (heap_cell h1 0).trans rfl
  have hcl := clear_run w mb es clock h2
  have hmc : mb ≠ cb := fun e => by have := h1; rw [← e, h2] at this; cases this
  have m1 := (putBlk_heap w mb cb (.map #[] clock) hmc).trans h1
  have m2 := putBlk_same w mb (.map #[] clock) (heap_lt h2)
  have x1 := (heap_cell m1 1).trans rfl
  have x2 : (putBlk w mb (.map #[] clock)).frozen? ⟨cb, 1, none⟩ = false := by rw [frozen_heap, m1]; rfl
  have M1 := Lib.hid m1
  have M2 := Lib.hid m2
  have H5 := Lib.hid h5
  have K : Keeps F w (putBlk w mb (.map #[] clock)) := (Keeps.refl F w).put (.inl (by rw [h5]; simp)) _
  have y1 := setCell_heap_same (i := 1) (v := .slice none 0 0) m1
  have Y1 := Lib.hid y1
  have lt1 := heap_lt h1
  clear h1 h2 h3 h4 h5 h6 h8 hn hm m1 m2 y1
  go_enter Try.func82, Try.ntmps82
  go_wp2
  refine ⟨rfl, .tuple #[], (by simp [results, Try.results82, go_sem]), ?_⟩
  exact ⟨rfl, [cb, mb], ⟨mb, .slice none 0 0, #[], clock, Y1.out, (setCell_heap _ _ _ _ _ (Ne.symm hmc)).trans M2.out, rfl, Owns.nil .., rfl, Nat.zero_le _, h7, List.nodup_nil⟩,
    K.setCell (.inl (by rw [H5.out]; simp)) _, fun x hx => .inl (by rw [H5.out]; simp at hx; rcases hx with rfl | rfl <;> simp)⟩

/-! ### of nil -/
theorem nil_put (k : Key) (x : Line) (pick : Int) (w : World) : Calls Try.prog 67 #[.pointer none, k.val, x.val, .int .i64 pick] w fun e w' => e = .returned (.tuple #[]) ∧ Ext w w' := by
  obtain ⟨p, l, t⟩ := k
  obtain ⟨zf, za, zb, zc, zd, zm⟩ := x
  unfold Key.val Line.val
  go_enter Try.func67, Try.ntmps67
  go_wp2
  refine ⟨rfl, .tuple #[], (by simp [results, Try.results67, go_sem]), ?_⟩
  exact ⟨rfl, (by repeat (first | exact Ext.refl _ | assumption | refine Ext.alloc ?_ _ | refine Ext.drew ?_ | refine Ext.setCell ?_ (by first | (simp; done) | (dsimp only; omega)) _ | refine Ext.trans ?_ (by assumption)))⟩
theorem nil_drop (k : Key) (w : World) : Calls Try.prog 78 #[.pointer none, k.val] w fun e w' => e = .returned (.tuple #[]) ∧ Ext w w' := by
  obtain ⟨p, l, t⟩ := k
  unfold Key.val
  go_enter Try.func78, Try.ntmps78
  go_wp2
  refine ⟨rfl, .tuple #[], (by simp [results, Try.results78, go_sem]), ?_⟩
  exact ⟨rfl, (by repeat (first | exact Ext.refl _ | assumption | refine Ext.alloc ?_ _ | refine Ext.drew ?_ | refine Ext.setCell ?_ (by first | (simp; done) | (dsimp only; omega)) _ | refine Ext.trans ?_ (by assumption)))⟩
theorem nil_keys (w : World) : Calls Try.prog 50 #[.pointer none] w fun e w' => e = .returned (.slice none 0 0) ∧ Ext w w' := by
  go_enter Try.func50, Try.ntmps50
  go_wp2
  go_ret
  exact ⟨rfl, (by repeat (first | exact Ext.refl _ | assumption | refine Ext.alloc ?_ _ | refine Ext.drew ?_ | refine Ext.setCell ?_ (by first | (simp; done) | (dsimp only; omega)) _ | refine Ext.trans ?_ (by assumption)))⟩
theorem nil_clear (w : World) : Calls Try.prog 82 #[.pointer none] w fun e w' => e = .returned (.tuple #[]) ∧ Ext w w' := by
  go_enter Try.func82, Try.ntmps82
  go_wp2
  refine ⟨rfl, .tuple #[], (by simp [results, Try.results82, go_sem]), ?_⟩
  exact ⟨rfl, (by repeat (first | exact Ext.refl _ | assumption | refine Ext.alloc ?_ _ | refine Ext.drew ?_ | refine Ext.setCell ?_ (by first | (simp; done) | (dsimp only; omega)) _ | refine Ext.trans ?_ (by assumption)))⟩
theorem nil_evict (pick : Int) (w : World) : Calls Try.prog 83 #[.pointer none, .int .i64 pick] w fun e w' => e = .returned (.tuple #[]) ∧ Ext w w' := by
  go_enter Try.func83, Try.ntmps83
  go_wp2
  refine ⟨rfl, .tuple #[], (by simp [results, Try.results83, go_sem]), ?_⟩
  exact ⟨rfl, (by repeat (first | exact Ext.refl _ | assumption | refine Ext.alloc ?_ _ | refine Ext.drew ?_ | refine Ext.setCell ?_ (by first | (simp; done) | (dsimp only; omega)) _ | refine Ext.trans ?_ (by assumption)))⟩
theorem nil_get (k : Key) (w : World) : Calls Try.prog 46 #[.pointer none, k.val] w fun e w' => e = .returned (.tuple #[noLine.val, .bool false]) ∧ Ext w w' := by
  obtain ⟨p, l, t⟩ := k
  unfold Key.val
  go_enter Try.func46, Try.ntmps46
  go_wp2
  refine bodyPost_ret (by simp [results, Try.results46, go_sem, ↓IntWalk.iteOmega, *]; try rfl) rfl ⟨rfl, (by repeat (first | exact Ext.refl _ | assumption | refine Ext.alloc ?_ _ | refine Ext.drew ?_ | refine Ext.setCell ?_ (by first | (simp; done) | (dsimp only; omega)) _ | refine Ext.trans ?_ (by assumption)))⟩
end Go.Proofs.Ytakkjpdolkokfaa
