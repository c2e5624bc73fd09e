/- Joined texts, part 7 of what the law stands on: each as its own head says. -/
import Derived.Test.YtkfonacokamfiaaPly6
/- Caches: Put. -/
namespace Go.Proofs.Ytkfonacokamfiaa
set_option linter.unusedVariables false
set_option linter.unusedSimpArgs false
open Go.RowKit
attribute [local go_sem] wext_cell wext_frozen wext_heap alloc_cell alloc_frozen alloc_heap setCell_cell objCell_cells objFrozen_cells
attribute [local go_sem high] key_eql

def putC (k : Key) (x : Line) (pick : Int) (r : Nat) (L : List (Key × Line)) : List (Key × Line) :=
  if r = 0 then L else if hasK k L = true then putL k x L else (if L.length < r then L else evictL pick L) ++ [(k, x)]

/-- Between the order's store and the map's. -/
def PAt (w : World) (cb : Nat) (F : List Nat) (L' L : List (Key × Line)) (r : Nat) : Prop :=
  ∃ mb ov es clock, w.heap[cb]? = some (.cells #[.map (some mb), ov, .int .i64 r] 117 (0, 0)) ∧ w.heap[mb]? = some (.map es clock) ∧ EntOk es L ∧
    Owns w 87 3 ov (keysOf L').length (rowK (keysOf L')) ∧ F = cb :: mb :: ov.ownBlock.toList ∧ L'.length ≤ r ∧ r ≤ 64 ∧ (keysOf L').Nodup

theorem keysOf_putL {k : Key} {x : Line} {L : List (Key × Line)} (h : hasK k L = true) : keysOf (putL k x L) = keysOf L := by
  unfold putL
  unfold hasK at h
  cases hl : look k L 0 with
  | none => rw [hl] at h; cases h
  | some y =>
    obtain ⟨i, y⟩ := y
    have := (look_some hl).2.1
    simp only [Nat.sub_zero] at this
    simp only [keysOf, List.map_set]
    apply List.ext_getElem?
    intro j
    rw [List.getElem?_set]
    split
    · rename_i hij
      subst hij
      have h2 := (List.getElem?_eq_some_iff.1 this)
      simp [h2.1, h2.2]
    · rfl
theorem putL_new {k : Key} {x : Line} {L : List (Key × Line)} (h : hasK k L = false) : putL k x L = L ++ [(k, x)] := by
  unfold putL
  unfold hasK at h
  cases hl : look k L 0 with
  | none => rfl
  | some y => rw [hl] at h; cases h
theorem hasK_iff {k : Key} {L : List (Key × Line)} : hasK k L = true ↔ k ∈ keysOf L := by
  unfold hasK
  cases hl : look k L 0 with
  | none =>
    simp only [Option.isSome_none, Bool.false_eq_true, false_iff]
    intro hm
    obtain ⟨y, hy, he⟩ := List.mem_map.1 hm
    exact look_none hl y hy he
  | some y =>
    simp only [Option.isSome_some, true_iff]
    exact List.mem_map.2 ⟨_, List.mem_of_getElem? (look_some hl).2.1, rfl⟩
theorem evictL_sub {pick : Int} {L : List (Key × Line)} : (evictL pick L).Sublist L := by
  unfold evictL
  split
  · exact List.Sublist.refl _
  · exact List.eraseIdx_sublist ..
theorem hasK_sub {k : Key} {L L' : List (Key × Line)} (hs : L'.Sublist L) (h : hasK k L = false) : hasK k L' = false := by
  cases hh : hasK k L' with
  | false => rfl
  | true =>
    have := hasK_iff.1 hh
    rw [hasK_iff.2 ((hs.map (·.1)).subset this)] at h
    cases h
theorem evictL_length {pick : Int} {L : List (Key × Line)} (h : 0 < L.length) : (evictL pick L).length = L.length - 1 := by
  unfold evictL
  rw [if_neg (by omega), List.length_eraseIdx, if_pos]
  have := Int.emod_nonneg pick (b := (L.length : Int)) (by omega)
  have := Int.emod_lt_of_pos pick (b := (L.length : Int)) (by omega)
  unfold pickI
  omega

set_option maxHeartbeats 2000000 in
theorem put_c (cb : Nat) (F : List Nat) (L : List (Key × Line)) (r : Nat) (k : Key) (x : Line) (pick : Int) (w : World) (h : CAt w cb F L r) (hp0 : -9223372036854775808 ≤ pick) (hp1 : pick ≤ 9223372036854775807) :
    Calls Try.prog 41 #[.pointer (some ⟨cb, 0, none⟩), k.val, x.val, .int .i64 pick] w (EndC cb F w (putC k x pick r L) r) := by
  have HC := Lib.hid h
  obtain ⟨mb, es, clock, c0, m0, hent, b1, b2⟩ := h.mapAt
  obtain ⟨-, -, -, -, -, c2, -, -, -, -, b4, b5, -⟩ := h.order
  have hlk : ∀ w2, Ext w w2 → (Instr.lookup 115 (.map (some mb)) k.val true).run Try.prog w2 = .ok (.tuple #[(getLine k L).val, .bool (hasK k L)]) w2 := fun w2 hx =>
    lookup_run k w2 mb es clock L (by rw [hx.block _ b2]; exact m0) hent
  obtain ⟨p, l, t⟩ := k
  obtain ⟨xf, xa, xb, xc, xd, xm⟩ := x
  generalize getLine ⟨p, l, t⟩ L = z at hlk
  generalize hq : hasK ⟨p, l, t⟩ L = q at hlk
  obtain ⟨zf, za, zb, zc, zd, zm⟩ := z
  generalize hL' : putC ⟨p, l, t⟩ ⟨xf, xa, xb, xc, xd, xm⟩ pick r L = L'
  unfold Key.val Line.val at *
  have HL := Lib.hid hlk
  have HQ := Aside.mk hq
  have HP := Aside.mk hL'
  clear h hent m0 hlk hq hL'
  by_cases hr : r = 0
  · subst hr
    go_enter Try.func41, Try.ntmps41
    go_wp2
    all_goals
      refine ⟨rfl, .tuple #[], (by simp [results, Try.results41, go_sem]), ?_⟩
      have : L' = L := by rw [← HP.out]; simp [putC]
      rw [this]
      exact EndC.none HC.out (by repeat (first | exact Ext.refl _ | assumption | refine Ext.alloc ?_ _ | refine Ext.drew ?_ | refine Ext.setCell ?_ (by first | (simp; done) | (dsimp only; omega)) _ | refine Ext.trans ?_ (by assumption)))
  have hr1 : ((r : Int) == 0) = false := by simpa using hr
  go_enter Try.func41, Try.ntmps41
  go_upto_region 2 with (fail)
  refine wp_gen ?_; intro W hW
  have hE : Ext w W := by rw [hW]; exact (by repeat (first | exact Ext.refl _ | assumption | refine Ext.alloc ?_ _ | refine Ext.drew ?_ | refine Ext.setCell ?_ (by first | (simp; done) | (dsimp only; omega)) _ | refine Ext.trans ?_ (by assumption)))
  have HX := Lib.hid hE
  have hl2 : ∀ d, (Instr.lookup 115 (.map (some mb)) (.agg #[.int .i64 p, .int .i64 l, .int .u64 t]) true).run Try.prog (wext W d) =
      .ok (.tuple #[.agg #[.int .u64 zf, .bool za, .bool zb, .bool zc, .bool zd, .int .u8 zm], .bool q]) (wext W d) := fun d => HL.out _ (HX.out.trans (wext_ext W d))
  have x1 : W.cell? ⟨cb, 0, none⟩ = some (.map (some mb)) := by rw [hE.cell _ _ b1]; exact c0
  have n0 : W.heap[w.heap.size]? = some (.cells #[.int .i64 p, .int .i64 l, .int .u64 t] 87 (0, 0)) := by rw [hW]; exact (alloc_other _ _ (by simp)).trans (alloc_same ..)
  have n1 : W.heap[w.heap.size + 1]? = some (.cells #[.int .u64 xf, .bool xa, .bool xb, .bool xc, .bool xd, .int .u8 xm] 83 (0, 0)) := by rw [hW]; exact alloc_same1 ..
  have N0 := Lib.hid n0
  have N1 := Lib.hid n1
  have x2 := (heap_cell n0 0).trans rfl
  have x3 := (heap_cell n0 1).trans rfl
  have x4 := (heap_cell n0 2).trans rfl
  have x5 : w.heap.size + 1 < W.heap.size := (by rw [hW]; (try simp only [World.size_alloc, World.size_setCell, World.size_drew]); omega)
  have x6 := hE.size
  clear hW hE c0 n0 n1
  refine region_mix [.q [0, 1, 2, 3, 4, 5, 6, 7], .b [8], .l 9 3, .l 10 2, .q [11]] (by kernel_rfl) (by kernel_rfl) ?_
  (try refine ⟨fun h => absurd h (by simp), ?_⟩); (repeat (unfold wpPlan; simp only [pickL, List.map_cons, List.map_nil, List.getD_cons_succ, List.getD_cons_zero]; (repeat go_big_quiet_step (fail)); refine wpQuiet_nil ?_)); unfold wpPlan; intro w1 hb1; (try simp only [pickL, List.map_cons, List.map_nil, List.getD_cons_succ, List.getD_cons_zero])
  have HB1 := Lib.hid hb1
  have s1 := hb1.size
  clear hb1
  go_wp2
  refine ⟨(by repeat (first | exact Ext.refl _ | assumption | refine Ext.alloc ?_ _ | refine Ext.drew ?_ | refine Ext.setCell ?_ (by first | (simp; done) | (dsimp only; omega)) _ | refine Ext.trans ?_ (by assumption))), ?_⟩
  (try refine ⟨fun h => absurd h (by simp), ?_⟩); (repeat (unfold wpPlan; simp only [pickL, List.map_cons, List.map_nil, List.getD_cons_succ, List.getD_cons_zero]; (repeat go_big_quiet_step (fail)); refine wpQuiet_nil ?_)); unfold wpPlan; intro w2 hb2; (try simp only [pickL, List.map_cons, List.map_nil, List.getD_cons_succ, List.getD_cons_zero])
  have s2 := hb2.size
  rw [World.size_alloc] at s2
  have m2 := (hb2.block w1.heap.size (by simp)).trans (alloc_same w1 _)
  have y0 := (heap_cell m2 0).trans rfl
  have y1 := (heap_cell m2 1).trans rfl
  have y2 := (heap_cell m2 2).trans rfl
  have y3 := (heap_cell m2 3).trans rfl
  have y4 := (heap_cell m2 4).trans rfl
  have y5 := (heap_cell m2 5).trans rfl
  have y6 : ∀ o, w2.frozen? ⟨w1.heap.size, o, none⟩ = false := fun o => by rw [frozen_heap, m2]; simp [objFrozen]
  have HB2 := Lib.hid hb2
  clear hb2 m2
  go_wp2
  (try refine ⟨fun h => absurd h (by simp), ?_⟩); (repeat (unfold wpPlan; simp only [pickL, List.map_cons, List.map_nil, List.getD_cons_succ, List.getD_cons_zero]; (repeat go_big_quiet_step (fail)); refine wpQuiet_nil ?_)); unfold wpPlan; intro w3 hb3; (try simp only [pickL, List.map_cons, List.map_nil, List.getD_cons_succ, List.getD_cons_zero])
  have E3 : Ext W w3 := HB1.out.trans ((ext6 ((Ext.refl w1).alloc _ |>.trans HB2.out) (Nat.le_refl _)).trans hb3)
  have H3 := Lib.hid E3
  clear y0 y1 y2 y3 y4 y5 y6 x1 x2 x3 x4 hl2 HB1 HB2 hb3 E3
  go_upto_if 29 with (fail)
  go_cut [] (fun wx => ∃ F' L6, Hid (PAt wx cb F' L' L6 r ∧ putL ⟨p, l, t⟩ ⟨xf, xa, xb, xc, xd, xm⟩ L6 = L' ∧ Keeps F w wx ∧ (∀ y ∈ F', y ∈ F ∨ w.heap.size ≤ y) ∧
    wx.heap[w.heap.size]? = W.heap[w.heap.size]? ∧ wx.heap[w.heap.size + 1]? = W.heap[w.heap.size + 1]?))
  case first =>
    have x7 := (H3.out.size)
    have n0 := (H3.out.block w.heap.size (by omega)).trans N0.out
    have n1 := (H3.out.block (w.heap.size + 1) (by omega)).trans N1.out
    have k0 := (heap_cell n0 0).trans rfl
    have k1 := (heap_cell n0 1).trans rfl
    have k2 := (heap_cell n0 2).trans rfl
    have A0 := Lib.hid n0
    have A1 := Lib.hid n1
    have C3 := Lib.hid (HC.out.ext (HX.out.trans H3.out))
    obtain ⟨mb3, a3, cap3, -, d1, d2, ho3, e1, e2, e3, e4, e5, e6⟩ := C3.out.order
    have e7 := heap_lt n1
    clear n0 n1 e6 ho3 c2
    cases q with
    | true =>
      go_wp2
      go_meet
      refine ⟨F, L, ⟨?_, ?_, Keeps.of_ext (HX.out.trans H3.out), fun y hy => .inl hy, H3.out.block _ (by omega), H3.out.block _ (by omega)⟩⟩
      · have hk : keysOf L' = keysOf L := by rw [← HP.out]; unfold putC; rw [if_neg hr, if_pos HQ.out]; exact keysOf_putL HQ.out
        have hl : L'.length = L.length := by rw [← keysOf_length L', hk, keysOf_length]
        unfold PAt
        rw [hk, hl]
        exact C3.out
      · rw [← HP.out]; unfold putC; rw [if_neg hr, if_pos HQ.out]
    | false =>
      have hL : L' = (if L.length < r then L else evictL pick L) ++ [(⟨p, l, t⟩, ⟨xf, xa, xb, xc, xd, xm⟩)] := by rw [← HP.out]; unfold putC; rw [if_neg hr, if_neg (by rw [HQ.out]; simp)]
      have HLL := Aside.mk hL
      clear hL
      have hno := HQ.out
      by_cases hfull : L.length < r
      · go_upto_region 4 with (fail)
        refine region_ext (by kernel_rfl) (by kernel_rfl) ?_; (repeat (go_big_quiet_step (fail))); refine wpQuiet_nil ?_; intro w1 hb; have ⟨hc, hf, hh, hs⟩ := hb.facts; try simp only [World.size_alloc, World.size_setCell, World.size_drew] at hs
        go_upto_region 6 with (fail)
        obtain ⟨F6, L6, hC6, hl6, hn6, hK6, hF6, hb0, hb1, hLL⟩ : ∃ F6 L6, CAt w1 cb F6 L6 r ∧ L6.length < r ∧ hasK ⟨p, l, t⟩ L6 = false ∧ Keeps F w w1 ∧ (∀ y ∈ F6, y ∈ F ∨ W.heap.size ≤ y) ∧
            w1.heap[w.heap.size]? = W.heap[w.heap.size]? ∧ w1.heap[w.heap.size + 1]? = W.heap[w.heap.size + 1]? ∧ L' = L6 ++ [(⟨p, l, t⟩, ⟨xf, xa, xb, xc, xd, xm⟩)] :=
          ⟨F, L, C3.out.ext hb, hfull, hno, Keeps.of_ext ((HX.out.trans H3.out).trans hb), fun y hy => .inl hy, (H3.out.trans hb).block _ (by omega), (H3.out.trans hb).block _ (by omega), by rw [HLL.out, if_pos hfull]⟩
        refine wp_gen ?_; intro w6 hw6
        rw [← hw6] at hC6 hK6 hb0 hb1
        have HC6 := Lib.hid hC6
        have HK6 := Lib.hid hK6
        have HS6 := Lib.hid hF6
        have hF7 : ∀ y ∈ F6, y ∈ F ∨ w.heap.size ≤ y := fun y hy => (hF6 y hy).elim .inl fun h => .inr (by omega)
        have HF6 := Lib.hid hF7
        clear hF7
        have HB0 := Lib.hid hb0
        have HB1 := Lib.hid hb1
        have HL6 := Aside.mk hLL
        have HN6 := Aside.mk hn6
        clear hC6 hK6 hF6 hb0 hb1 hLL hn6 hw6 hc hf hh hb hs k0 k1 k2 d1 d2 hno
        obtain ⟨mb6, ov6, es6, clock6, p1, p2, p3, p4, p5, p6, p7, p8⟩ := HC6.out
        have k6 := keysOf_length L6
        obtain ⟨a6, cap6, rfl, hn6, hm6⟩ := p4.form
        rw [k6] at p4 hn6 p1 p5
        have hmx : cap6 ≤ 9223372036854775807 := by unfold maxLen at hm6; omega
        have f1 : w6.cell? ⟨cb, 1, none⟩ = some (.slice a6 L6.length cap6) := (heap_cell p1 1).trans rfl
        have n6 := HB0.out.trans N0.out
        have g0 := (heap_cell n6 0).trans rfl
        have g1 := (heap_cell n6 1).trans rfl
        have g2 := (heap_cell n6 2).trans rfl
        have lt0 := heap_lt n6
        have lt0b := heap_lt (HB1.out.trans N1.out)
        have lt1 := heap_lt p1
        have lt2 := heap_lt p2
        have hmc : mb6 ≠ cb := fun e => by rw [← e, p2] at p1; cases p1
        have hmo : ∀ g, (Value.slice a6 L6.length cap6).ownBlock = some g → mb6 ≠ g ∧ cb ≠ g := fun g hg => by
          obtain ⟨c, hc⟩ := p4.heap g hg
          exact ⟨fun e => (by rw [← e, p2] at hc; cases hc), fun e => (by rw [← e, p1] at hc; cases hc)⟩
        have hog := p4.lt
        have P1 := Lib.hid p1
        have P2 := Lib.hid p2
        have P3 := Lib.hid p3
        have P4 := Lib.hid p4
        have P5 := Lib.hid p5
        have P8 := Lib.hid p8
        have HO := Lib.hid hmo
        have HG := Lib.hid hog
        clear p1 p2 p3 p4 p5 p8 n6 hmo hog hm6
        refine region_mix [.b [0], .q [1, 2, 3, 4, 5], .l 6 3, .l 7 2, .q [8, 9], .l 10 2] (by kernel_rfl) (by kernel_rfl) ?_
        (try refine ⟨fun h => absurd h (by simp), ?_⟩); (repeat (unfold wpPlan; simp only [pickL, List.map_cons, List.map_nil, List.getD_cons_succ, List.getD_cons_zero]; (repeat go_big_quiet_step (fail)); refine wpQuiet_nil ?_)); unfold wpPlan; intro w7 hb7; (try simp only [pickL, List.map_cons, List.map_nil, List.getD_cons_succ, List.getD_cons_zero])
        have s7 := hb7.size
        have HB7 := Lib.hid hb7
        clear hb7
        go_wp2
        refine ⟨?_, ?_⟩
        · (try intro _); exact (by repeat (first | exact Ext.refl _ | assumption | refine Ext.alloc ?_ _ | refine Ext.drew ?_ | refine Ext.setCell ?_ (by first | (simp; done) | (dsimp only; omega)) _ | refine Ext.trans ?_ (by assumption)))
        (try refine ⟨fun h => absurd h (by simp), ?_⟩); (repeat (unfold wpPlan; simp only [pickL, List.map_cons, List.map_nil, List.getD_cons_succ, List.getD_cons_zero]; (repeat go_big_quiet_step (fail)); refine wpQuiet_nil ?_)); unfold wpPlan; intro w8 hb8; (try simp only [pickL, List.map_cons, List.map_nil, List.getD_cons_succ, List.getD_cons_zero])
        have s8 := hb8.size
        rw [World.size_alloc] at s8
        have m8 := (hb8.block w7.heap.size (by simp)).trans (alloc_same w7 _)
        have hnews : ∀ j u, [Value.int .i64 p, .int .i64 l, .int .u64 t][j]? = some u → w8.cell? ((⟨w7.heap.size, 0, none⟩ : Addr).add j) = some u := fun j u hu => by
          rw [add0, heap_cell m8 j]; simpa using hu
        have HN8 := Lib.hid hnews
        have HO8 := Lib.hid (((P4.out.ext HB7.out).ext ((Ext.refl w7).alloc _)).ext hb8)
        have HB8 := Lib.hid (((Ext.refl w7).alloc _).trans hb8)
        clear hnews m8 hb8
        go_wp2_with (first | (at_builtin; refine wpList_append_owns rfl _ _ _ _ 3 24 keyRow rfl _ rfl L6.length (rowK (keysOf L6)) HO8.out _ 1 1 rfl [.int .i64 p, .int .i64 l, .int .u64 t] rfl HN8.out (by simp [Value.oneCell']) (by unfold maxLen; omega) (by omega) ?_; intro v9 w9 q1 q2 q3; replace q2 : w8.grownBy w9 (Value.slice a6 L6.length cap6).ownBlock := q2; replace q3 : v9.ownBlock = (Value.slice a6 L6.length cap6).ownBlock ∨ v9.ownBlock = some w8.heap.size := q3; obtain ⟨a9, c9, rfl, -, -⟩ := q1.form; simp only [Act.put, Array.set!_eq_setIfInBounds, List.setIfInBounds_toArray, List.set_cons_succ, List.set_cons_zero]))
        (try refine ⟨fun h => absurd h (by simp), ?_⟩); (repeat (unfold wpPlan; simp only [pickL, List.map_cons, List.map_nil, List.getD_cons_succ, List.getD_cons_zero]; (repeat go_big_quiet_step (fail)); refine wpQuiet_nil ?_)); unfold wpPlan; intro w10 hb10; (try simp only [pickL, List.map_cons, List.map_nil, List.getD_cons_succ, List.getD_cons_zero])
        have s9 := q2.size
        have s10 := hb10.size
        have z1 : w10.heap[cb]? = _ := ((hb10.block cb (by omega)).trans (q2.block cb (by omega) (fun e => (HO.out cb e.symm).2 rfl))).trans ((HB8.out.block cb (by omega)).trans ((HB7.out.block cb lt1).trans P1.out))
        have z2 : w10.heap[mb6]? = _ := ((hb10.block mb6 (by omega)).trans (q2.block mb6 (by omega) (fun e => (HO.out mb6 e.symm).1 rfl))).trans ((HB8.out.block mb6 (by omega)).trans ((HB7.out.block mb6 lt2).trans P2.out))
        have K10 : Keeps F w w10 := ((((HK6.out.ext HB7.out).ext HB8.out).grown q2 (fun y hy => HF6.out y (by rw [P5.out]; simp [hy])))).ext hb10
        have hbl : ∀ b, w.heap.size ≤ b → b < W.heap.size → b ∉ F6 → w6.heap[b]? = W.heap[b]? → b < w6.heap.size → w10.heap[b]? = W.heap[b]? := fun b _ _ h1 h2 h3 =>
          ((hb10.block b (by omega)).trans (q2.block b (by omega) (fun e => h1 (by rw [P5.out]; simp [e.symm])))).trans ((HB8.out.block b (by omega)).trans ((HB7.out.block b h3).trans h2))
        have x1 : w10.cell? ⟨cb, 1, none⟩ = some (.slice a6 L6.length cap6) := (heap_cell z1 1).trans rfl
        have x2 : w10.frozen? ⟨cb, 1, none⟩ = false := by rw [frozen_heap, z1]; rfl
        have Z1 := Lib.hid z1
        have Z2 := Lib.hid z2
        have K5 := Lib.hid K10
        have Q1 := Lib.hid (Owns.ext q1 hb10)
        have BL := Lib.hid hbl
        clear z1 z2 q1 q2 hb10 K10 hbl g0 g1 g2 f1
        go_wp2
        (try refine ⟨fun h => absurd h (by simp), ?_⟩); (repeat (unfold wpPlan; simp only [pickL, List.map_cons, List.map_nil, List.getD_cons_succ, List.getD_cons_zero]; (repeat go_big_quiet_step (fail)); refine wpQuiet_nil ?_)); unfold wpPlan; intro w11 hb11; (try simp only [pickL, List.map_cons, List.map_nil, List.getD_cons_succ, List.getD_cons_zero])
        go_wp2
        go_meet
        refine ⟨cb :: mb6 :: (Value.slice a9 (L6.length + 1) c9).ownBlock.toList, L6, ⟨⟨mb6, .slice a9 (L6.length + 1) c9, es6, clock6, ?_, ?_, P3.out, ?_, rfl, ?_, p7, ?_⟩, ?_, ?_, ?_, ?_, ?_⟩⟩
        · exact (hb11.block cb (by simp; exact heap_lt Z1.out)).trans (setCell_heap_same Z1.out)
        · exact (hb11.block mb6 (by simp; exact heap_lt Z2.out)).trans ((setCell_heap _ _ _ _ _ (Ne.symm hmc)).trans Z2.out)
        · have e1 : keysOf L' = keysOf L6 ++ [⟨p, l, t⟩] := by rw [HL6.out]; simp [keysOf]
          rw [e1, rowK_append, List.length_append, keysOf_length]
          refine (Q1.out.keep (w' := w10.setCell ⟨cb, 1, none⟩ (.slice a9 (L6.length + 1) c9)) fun y hy => setCell_heap _ _ _ _ _ fun e => ?_).ext hb11
          obtain ⟨c, hc⟩ := Q1.out.heap y hy
          rw [← e, Z1.out] at hc
          cases hc
        · rw [HL6.out]; simp; omega
        · have e1 : keysOf L' = keysOf L6 ++ [⟨p, l, t⟩] := by rw [HL6.out]; simp [keysOf]
          rw [e1, List.nodup_append]
          refine ⟨P8.out, by simp, fun y hy z hz e => ?_⟩
          obtain rfl : z = ⟨p, l, t⟩ := by simpa using hz
          have := hasK_iff.2 (e ▸ hy)
          rw [HN6.out] at this; cases this
        · rw [putL_new HN6.out, HL6.out]
        · exact (K5.out.setCell (by exact HF6.out cb (by rw [P5.out]; simp)) _).ext hb11
        · intro y hy
          simp only [List.mem_cons, Option.mem_toList] at hy
          rcases hy with rfl | rfl | hy
          · exact HF6.out _ (by rw [P5.out]; simp)
          · exact HF6.out _ (by rw [P5.out]; simp)
          · rcases q3 with q3 | q3 <;> rw [q3] at hy
            · exact HF6.out _ (by rw [P5.out]; simp [hy])
            · cases hy; have := HK6.out.size; exact .inr (by omega)
        · refine (hb11.block _ (by simp; omega)).trans ((setCell_heap _ _ _ _ _ (by omega)).trans (BL.out _ (by omega) (by omega) (fun hm => ?_) HB0.out (by omega)))
          rcases HS6.out _ hm with h | h
          · have := HC.out.lt _ h; omega
          · omega
        · refine (hb11.block _ (by simp; omega)).trans ((setCell_heap _ _ _ _ _ (by omega)).trans (BL.out _ (by omega) (by omega) (fun hm => ?_) HB1.out (by omega)))
          rcases HS6.out _ hm with h | h
          · have := HC.out.lt _ h; omega
          · omega
      · go_upto_region 4 with (fail)
        refine region_ext (by kernel_rfl) (by kernel_rfl) ?_; (repeat (go_big_quiet_step (fail))); refine wpQuiet_nil ?_; intro w1 hb; have ⟨hc, hf, hh, hs⟩ := hb.facts; try simp only [World.size_alloc, World.size_setCell, World.size_drew] at hs
        go_upto_region 6 with (first | (go_at_call 57; refine (evict_c cb F L r pick _ (C3.out.ext hb) hp0 hp1).mono ?_; rintro e w5 ⟨rfl, F5, hC5, hK5, hF5⟩))
        have E1 := (HX.out.trans H3.out).trans hb
        have E1s := E1.size
        have hFlt := HC.out.lt
        obtain ⟨F6, L6, hC6, hl6, hn6, hK6, hF6, hb0, hb1, hLL⟩ : ∃ F6 L6, CAt w5 cb F6 L6 r ∧ L6.length < r ∧ hasK ⟨p, l, t⟩ L6 = false ∧ Keeps F w w5 ∧ (∀ y ∈ F6, y ∈ F ∨ W.heap.size ≤ y) ∧
            w5.heap[w.heap.size]? = W.heap[w.heap.size]? ∧ w5.heap[w.heap.size + 1]? = W.heap[w.heap.size + 1]? ∧ L' = L6 ++ [(⟨p, l, t⟩, ⟨xf, xa, xb, xc, xd, xm⟩)] :=
          ⟨F5, evictL pick L, hC5, by rw [evictL_length (by omega)]; omega, hasK_sub evictL_sub hno, (Keeps.of_ext E1).same hK5, fun y hy => (hF5 y hy).elim .inl fun h => .inr (by omega),
            (hK5.block _ (by omega) (fun hm => by have := hFlt _ hm; omega)).trans ((H3.out.trans hb).block _ (by omega)), (hK5.block _ (by omega) (fun hm => by have := hFlt _ hm; omega)).trans ((H3.out.trans hb).block _ (by omega)), by rw [HLL.out, if_neg hfull]⟩
        refine wp_gen ?_; intro w6 hw6
        rw [← hw6] at hC6 hK6 hb0 hb1
        have HC6 := Lib.hid hC6
        have HK6 := Lib.hid hK6
        have HS6 := Lib.hid hF6
        have hF7 : ∀ y ∈ F6, y ∈ F ∨ w.heap.size ≤ y := fun y hy => (hF6 y hy).elim .inl fun h => .inr (by omega)
        have HF6 := Lib.hid hF7
        clear hF7
        have HB0 := Lib.hid hb0
        have HB1 := Lib.hid hb1
        have HL6 := Aside.mk hLL
        have HN6 := Aside.mk hn6
        clear hC6 hK6 hF6 hb0 hb1 hLL hn6 hw6 hc hf hh hb hs k0 k1 k2 d1 d2 hno hC5 hK5 hF5 hFlt E1
        obtain ⟨mb6, ov6, es6, clock6, p1, p2, p3, p4, p5, p6, p7, p8⟩ := HC6.out
        have k6 := keysOf_length L6
        obtain ⟨a6, cap6, rfl, hn6, hm6⟩ := p4.form
        rw [k6] at p4 hn6 p1 p5
        have hmx : cap6 ≤ 9223372036854775807 := by unfold maxLen at hm6; omega
        have f1 : w6.cell? ⟨cb, 1, none⟩ = some (.slice a6 L6.length cap6) := (heap_cell p1 1).trans rfl
        have n6 := HB0.out.trans N0.out
        have g0 := (heap_cell n6 0).trans rfl
        have g1 := (heap_cell n6 1).trans rfl
        have g2 := (heap_cell n6 2).trans rfl
        have lt0 := heap_lt n6
        have lt0b := heap_lt (HB1.out.trans N1.out)
        have lt1 := heap_lt p1
        have lt2 := heap_lt p2
        have hmc : mb6 ≠ cb := fun e => by rw [← e, p2] at p1; cases p1
        have hmo : ∀ g, (Value.slice a6 L6.length cap6).ownBlock = some g → mb6 ≠ g ∧ cb ≠ g := fun g hg => by
          obtain ⟨c, hc⟩ := p4.heap g hg
          exact ⟨fun e => (by rw [← e, p2] at hc; cases hc), fun e => (by rw [← e, p1] at hc; cases hc)⟩
        have hog := p4.lt
        have P1 := Lib.hid p1
        have P2 := Lib.hid p2
        have P3 := Lib.hid p3
        have P4 := Lib.hid p4
        have P5 := Lib.hid p5
        have P8 := Lib.hid p8
        have HO := Lib.hid hmo
        have HG := Lib.hid hog
        clear p1 p2 p3 p4 p5 p8 n6 hmo hog hm6
        refine region_mix [.b [0], .q [1, 2, 3, 4, 5], .l 6 3, .l 7 2, .q [8, 9], .l 10 2] (by kernel_rfl) (by kernel_rfl) ?_
        (try refine ⟨fun h => absurd h (by simp), ?_⟩); (repeat (unfold wpPlan; simp only [pickL, List.map_cons, List.map_nil, List.getD_cons_succ, List.getD_cons_zero]; (repeat go_big_quiet_step (fail)); refine wpQuiet_nil ?_)); unfold wpPlan; intro w7 hb7; (try simp only [pickL, List.map_cons, List.map_nil, List.getD_cons_succ, List.getD_cons_zero])
        have s7 := hb7.size
        have HB7 := Lib.hid hb7
        clear hb7
        go_wp2
        refine ⟨?_, ?_⟩
        · (try intro _); exact (by repeat (first | exact Ext.refl _ | assumption | refine Ext.alloc ?_ _ | refine Ext.drew ?_ | refine Ext.setCell ?_ (by first | (simp; done) | (dsimp only; omega)) _ | refine Ext.trans ?_ (by assumption)))
        (try refine ⟨fun h => absurd h (by simp), ?_⟩); (repeat (unfold wpPlan; simp only [pickL, List.map_cons, List.map_nil, List.getD_cons_succ, List.getD_cons_zero]; (repeat go_big_quiet_step (fail)); refine wpQuiet_nil ?_)); unfold wpPlan; intro w8 hb8; (try simp only [pickL, List.map_cons, List.map_nil, List.getD_cons_succ, List.getD_cons_zero])
        have s8 := hb8.size
        rw [World.size_alloc] at s8
        have m8 := (hb8.block w7.heap.size (by simp)).trans (alloc_same w7 _)
        have hnews : ∀ j u, [Value.int .i64 p, .int .i64 l, .int .u64 t][j]? = some u → w8.cell? ((⟨w7.heap.size, 0, none⟩ : Addr).add j) = some u := fun j u hu => by
          rw [add0, heap_cell m8 j]; simpa using hu
        have HN8 := Lib.hid hnews
        have HO8 := Lib.hid (((P4.out.ext HB7.out).ext ((Ext.refl w7).alloc _)).ext hb8)
        have HB8 := Lib.hid (((Ext.refl w7).alloc _).trans hb8)
        clear hnews m8 hb8
        go_wp2_with (first | (at_builtin; refine wpList_append_owns rfl _ _ _ _ 3 24 keyRow rfl _ rfl L6.length (rowK (keysOf L6)) HO8.out _ 1 1 rfl [.int .i64 p, .int .i64 l, .int .u64 t] rfl HN8.out (by simp [Value.oneCell']) (by unfold maxLen; omega) (by omega) ?_; intro v9 w9 q1 q2 q3; replace q2 : w8.grownBy w9 (Value.slice a6 L6.length cap6).ownBlock := q2; replace q3 : v9.ownBlock = (Value.slice a6 L6.length cap6).ownBlock ∨ v9.ownBlock = some w8.heap.size := q3; obtain ⟨a9, c9, rfl, -, -⟩ := q1.form; simp only [Act.put, Array.set!_eq_setIfInBounds, List.setIfInBounds_toArray, List.set_cons_succ, List.set_cons_zero]))
        (try refine ⟨fun h => absurd h (by simp), ?_⟩); (repeat (unfold wpPlan; simp only [pickL, List.map_cons, List.map_nil, List.getD_cons_succ, List.getD_cons_zero]; (repeat go_big_quiet_step (fail)); refine wpQuiet_nil ?_)); unfold wpPlan; intro w10 hb10; (try simp only [pickL, List.map_cons, List.map_nil, List.getD_cons_succ, List.getD_cons_zero])
        have s9 := q2.size
        have s10 := hb10.size
        have z1 : w10.heap[cb]? = _ := ((hb10.block cb (by omega)).trans (q2.block cb (by omega) (fun e => (HO.out cb e.symm).2 rfl))).trans ((HB8.out.block cb (by omega)).trans ((HB7.out.block cb lt1).trans P1.out))
        have z2 : w10.heap[mb6]? = _ := ((hb10.block mb6 (by omega)).trans (q2.block mb6 (by omega) (fun e => (HO.out mb6 e.symm).1 rfl))).trans ((HB8.out.block mb6 (by omega)).trans ((HB7.out.block mb6 lt2).trans P2.out))
        have K10 : Keeps F w w10 := ((((HK6.out.ext HB7.out).ext HB8.out).grown q2 (fun y hy => HF6.out y (by rw [P5.out]; simp [hy])))).ext hb10
        have hbl : ∀ b, w.heap.size ≤ b → b < W.heap.size → b ∉ F6 → w6.heap[b]? = W.heap[b]? → b < w6.heap.size → w10.heap[b]? = W.heap[b]? := fun b _ _ h1 h2 h3 =>
          ((hb10.block b (by omega)).trans (q2.block b (by omega) (fun e => h1 (by rw [P5.out]; simp [e.symm])))).trans ((HB8.out.block b (by omega)).trans ((HB7.out.block b h3).trans h2))
        have x1 : w10.cell? ⟨cb, 1, none⟩ = some (.slice a6 L6.length cap6) := (heap_cell z1 1).trans rfl
        have x2 : w10.frozen? ⟨cb, 1, none⟩ = false := by rw [frozen_heap, z1]; rfl
        have Z1 := Lib.hid z1
        have Z2 := Lib.hid z2
        have K5 := Lib.hid K10
        have Q1 := Lib.hid (Owns.ext q1 hb10)
        have BL := Lib.hid hbl
        clear z1 z2 q1 q2 hb10 K10 hbl g0 g1 g2 f1
        go_wp2
        (try refine ⟨fun h => absurd h (by simp), ?_⟩); (repeat (unfold wpPlan; simp only [pickL, List.map_cons, List.map_nil, List.getD_cons_succ, List.getD_cons_zero]; (repeat go_big_quiet_step (fail)); refine wpQuiet_nil ?_)); unfold wpPlan; intro w11 hb11; (try simp only [pickL, List.map_cons, List.map_nil, List.getD_cons_succ, List.getD_cons_zero])
        go_wp2
        go_meet
        refine ⟨cb :: mb6 :: (Value.slice a9 (L6.length + 1) c9).ownBlock.toList, L6, ⟨⟨mb6, .slice a9 (L6.length + 1) c9, es6, clock6, ?_, ?_, P3.out, ?_, rfl, ?_, p7, ?_⟩, ?_, ?_, ?_, ?_, ?_⟩⟩
        · exact (hb11.block cb (by simp; exact heap_lt Z1.out)).trans (setCell_heap_same Z1.out)
        · exact (hb11.block mb6 (by simp; exact heap_lt Z2.out)).trans ((setCell_heap _ _ _ _ _ (Ne.symm hmc)).trans Z2.out)
        · have e1 : keysOf L' = keysOf L6 ++ [⟨p, l, t⟩] := by rw [HL6.out]; simp [keysOf]
          rw [e1, rowK_append, List.length_append, keysOf_length]
          refine (Q1.out.keep (w' := w10.setCell ⟨cb, 1, none⟩ (.slice a9 (L6.length + 1) c9)) fun y hy => setCell_heap _ _ _ _ _ fun e => ?_).ext hb11
          obtain ⟨c, hc⟩ := Q1.out.heap y hy
          rw [← e, Z1.out] at hc
          cases hc
        · rw [HL6.out]; simp; omega
        · have e1 : keysOf L' = keysOf L6 ++ [⟨p, l, t⟩] := by rw [HL6.out]; simp [keysOf]
          rw [e1, List.nodup_append]
          refine ⟨P8.out, by simp, fun y hy z hz e => ?_⟩
          obtain rfl : z = ⟨p, l, t⟩ := by simpa using hz
          have := hasK_iff.2 (e ▸ hy)
          rw [HN6.out] at this; cases this
        · rw [putL_new HN6.out, HL6.out]
        · exact (K5.out.setCell (by exact HF6.out cb (by rw [P5.out]; simp)) _).ext hb11
        · intro y hy
          simp only [List.mem_cons, Option.mem_toList] at hy
          rcases hy with rfl | rfl | hy
          · exact HF6.out _ (by rw [P5.out]; simp)
          · exact HF6.out _ (by rw [P5.out]; simp)
          · rcases q3 with q3 | q3 <;> rw [q3] at hy
            · exact HF6.out _ (by rw [P5.out]; simp [hy])
            · cases hy; have := HK6.out.size; exact .inr (by omega)
        · refine (hb11.block _ (by simp; omega)).trans ((setCell_heap _ _ _ _ _ (by omega)).trans (BL.out _ (by omega) (by omega) (fun hm => ?_) HB0.out (by omega)))
          rcases HS6.out _ hm with h | h
          · have := HC.out.lt _ h; omega
          · omega
        · refine (hb11.block _ (by simp; omega)).trans ((setCell_heap _ _ _ _ _ (by omega)).trans (BL.out _ (by omega) (by omega) (fun hm => ?_) HB1.out (by omega)))
          rcases HS6.out _ hm with h | h
          · have := HC.out.lt _ h; omega
          · omega
  case rest =>
    obtain ⟨F', L6, hcut⟩ := hcut
    obtain ⟨⟨mb', ov, es', clock', p1, p2, p3, p4, p5, p6, p7, p8⟩, p10, p11, p12, p13, p14⟩ := hcut.out
    rw [N0.out] at p13
    rw [N1.out] at p14
    have a0 := (heap_cell p1 0).trans rfl
    have k0 := (heap_cell p13 0).trans rfl
    have k1 := (heap_cell p13 1).trans rfl
    have k2 := (heap_cell p13 2).trans rfl
    have l0 := (heap_cell p14 0).trans rfl
    have l1 := (heap_cell p14 1).trans rfl
    have l2 := (heap_cell p14 2).trans rfl
    have l3 := (heap_cell p14 3).trans rfl
    have l4 := (heap_cell p14 4).trans rfl
    have l5 := (heap_cell p14 5).trans rfl
    have lt1 := heap_lt p1
    have lt2 := heap_lt p2
    have lt3 := heap_lt p14
    have P1 := Lib.hid p1
    have P2 := Lib.hid p2
    have P3 := Lib.hid p3
    have P4 := Lib.hid p4
    have P5 := Lib.hid p5
    have P8 := Lib.hid p8
    have PA := Aside.mk p10
    have PK := Lib.hid p11
    have PF := Lib.hid p12
    have hmc : mb' ≠ cb := fun e => by rw [← e, p2] at p1; cases p1
    have hmo : ∀ g, ov.ownBlock = some g → mb' ≠ g := fun g hg e => by obtain ⟨c, hc⟩ := p4.heap g hg; rw [← e, p2] at hc; cases hc
    have HO := Lib.hid hmo
    clear hcut p1 p2 p3 p4 p5 p8 p10 p11 p12 p13 p14 c2 hmo x5 x6
    go_upto_region 7 with (fail)
    refine region_mix [.q [0, 1, 2, 3, 4, 5], .l 6 2] (by kernel_rfl) (by kernel_rfl) ?_
    (try refine ⟨fun h => absurd h (by simp), ?_⟩); (repeat (unfold wpPlan; simp only [pickL, List.map_cons, List.map_nil, List.getD_cons_succ, List.getD_cons_zero]; (repeat go_big_quiet_step (fail)); refine wpQuiet_nil ?_)); unfold wpPlan; intro w4 hb4; (try simp only [pickL, List.map_cons, List.map_nil, List.getD_cons_succ, List.getD_cons_zero])
    have q2 := (hb4.block mb' lt2).trans P2.out
    obtain ⟨es4, c4, hup, hent4⟩ := mapUpdate_run ⟨p, l, t⟩ ⟨xf, xa, xb, xc, xd, xm⟩ w4 mb' es' clock' L6 q2 P3.out
    unfold Key.val Line.val at hup
    have HE := Lib.hid hent4
    have HB4 := Lib.hid hb4
    clear hent4 hb4 q2
    go_wp2
    (try refine ⟨fun h => absurd h (by simp), ?_⟩); (repeat (unfold wpPlan; simp only [pickL, List.map_cons, List.map_nil, List.getD_cons_succ, List.getD_cons_zero]; (repeat go_big_quiet_step (fail)); refine wpQuiet_nil ?_)); unfold wpPlan; intro w5 hb5; (try simp only [pickL, List.map_cons, List.map_nil, List.getD_cons_succ, List.getD_cons_zero])
    go_wp2
    refine ⟨rfl, .tuple #[], (by simp [results, Try.results41, go_sem]), ?_⟩
    have z1 := HB4.out.size
    have z2 : (putBlk w4 mb' (.map es4 c4)).heap.size = w4.heap.size := putBlk_size ..
    refine ⟨rfl, F', ⟨mb', ov, es4, c4, ?_, ?_, by rw [← PA.out]; exact HE.out, ?_, P5.out, p6, p7, P8.out⟩, ?_, PF.out⟩
    · exact (hb5.block cb (by omega)).trans ((putBlk_heap _ _ _ _ hmc).trans ((HB4.out.block cb lt1).trans P1.out))
    · exact (hb5.block mb' (by omega)).trans (putBlk_same _ _ _ (by omega))
    · refine (P4.out.ext HB4.out).keep fun g hg => ?_
      have hg2 := P4.out.lt g hg
      exact (hb5.block g (by omega)).trans (putBlk_heap _ _ _ _ (HO.out g hg))
    · have hm : mb' ∈ F' := by rw [P5.out]; simp
      exact (((PK.out.ext HB4.out).put (PF.out mb' hm) _).ext hb5)
end Go.Proofs.Ytkfonacokamfiaa
