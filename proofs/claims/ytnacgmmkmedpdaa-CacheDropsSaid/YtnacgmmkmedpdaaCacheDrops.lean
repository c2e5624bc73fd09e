/- CacheDrops: what is dropped isn't there; all others are, in turn, as they were; all of a PCID are gone by that, and no others: for every room, all deeds and every key. -/
import Derived.Test.YtnacgmmkmedpdaaLawCF
namespace Go.Proofs.Ytnacgmmkmedpdaa
set_option linter.unusedVariables false
set_option linter.unusedSimpArgs false
open Go.RowKit
attribute [local go_sem] wext_cell wext_frozen wext_heap alloc_cell alloc_frozen alloc_heap setCell_cell objCell_cells objFrozen_cells
open Go.Proofs

theorem key_neq (p l t p' l' t' : Int) (w : World) : (binOp .neq 34 (.agg #[.int .i64 p, .int .i64 l, .int .u64 t]) (.agg #[.int .i64 p', .int .i64 l', .int .u64 t'])).run Try.prog w = .ok (.bool (!keyB ⟨p, l, t⟩ ⟨p', l', t'⟩)) w := by
  have := key_equal ⟨p, l, t⟩ ⟨p', l', t'⟩ w
  rw [run_neq_struct]
  show ((Op.equal _ _ _).run _ _).andThen _ = _
  simp only [Key.val] at this
  rw [this]; rfl
attribute [local go_sem high] key_eql key_neq

theorem filter_at {P : Key → Bool} : ∀ {l : List Key} {h : Nat}, h < l.length → P (kAt l h) = true → (l.take h).countP P < (l.filter P).length ∧ kAt (l.filter P) ((l.take h).countP P) = kAt l h
  | [], h, hl, _ => by simp at hl
  | x :: l, 0, _, hp => by
    have hp : P x = true := hp
    rw [List.filter_cons_of_pos hp]
    exact ⟨by simp, rfl⟩
  | x :: l, h + 1, hl, hp => by
    have hp2 : P (kAt l h) = true := by simpa [kAt] using hp
    obtain ⟨i1, i2⟩ := filter_at (P := P) (l := l) (h := h) (by simpa using hl) hp2
    have e : kAt (x :: l) (h + 1) = kAt l h := by simp [kAt]
    rw [List.take_succ_cons, List.countP_cons, e]
    by_cases hx : P x = true
    · rw [List.filter_cons_of_pos hx, if_pos hx]
      exact ⟨by simpa using i1, by rw [← i2]; simp [kAt]⟩
    · rw [List.filter_cons_of_neg hx, if_neg hx]
      exact ⟨i1, i2⟩
theorem count_next {P : Key → Bool} {l : List Key} {h : Nat} (hl : h < l.length) : (l.take (h + 1)).countP P = (l.take h).countP P + if P (kAt l h) = true then 1 else 0 := by
  have e : l.take (h + 1) = l.take h ++ [kAt l h] := by rw [List.take_add_one, List.getElem?_eq_getElem hl]; simp [kAt, List.getD, hl]
  rw [e, List.countP_append, List.countP_singleton]
theorem keys_del {k : Key} {L : List (Key × Line)} (hn : (keysOf L).Nodup) : keysOf (delL k L) = (keysOf L).filter (· != k) := by
  rw [delL_filter hn]; unfold keysOf; rw [List.filter_map]; rfl
theorem keys_filt {p : Int} {L : List (Key × Line)} : keysOf (filtL p L) = (keysOf L).filter (·.p != p) := by
  unfold filtL keysOf; rw [List.filter_map]; rfl

set_option maxHeartbeats 4000000 in
set_option maxRecDepth 20000 in
theorem cacheDrops_c (room : Int) (v : Value) (ds : List Deed) (k : Key) (w : World) (h0 : 0 ≤ room) (h1 : room ≤ 255) (hds : DeedsAt w v ds) :
    Calls Try.prog 4 #[.int .u8 room, v, k.val] w fun e w' => e = .returned (.bool true) ∧ Ext w w' := by
  have hrun := fun w' (hx : Ext w w') => run_c room v ds w' h0 h1 (hds.ext hx)
  obtain ⟨a, cap, rfl, hn, hm, -, -⟩ := hds
  unfold EndRun at hrun
  generalize foldD (1 + (room % 8).toNat) (ds.take 120) = L at hrun
  generalize 1 + (room % 8).toNat = r at hrun
  have HR := Lib.hid hrun
  clear hrun
  obtain ⟨p, l, t⟩ := k
  unfold Key.val
  go_enter Try.func4, Try.ntmps4
  go_upto_region 3 with (first | (go_at_call 21; refine (awake10_c _).mono ?_; rintro e w1 ⟨rfl, hb1⟩) | (go_at_call 26; refine (HR.out _ (Ext.trans (by repeat (first | exact Ext.refl _ | assumption | refine Ext.alloc ?_ _ | refine Ext.drew ?_ | refine Ext.setCell ?_ (by first | (simp; done) | (dsimp only; omega)) _ | refine Ext.trans ?_ (by assumption))) hb1)).mono ?_; rintro e w2 ⟨ca, FA, rfl, hC2, hE2, hF2⟩))
  have hbx := (hb1.block w.heap.size (by simp)).trans (alloc_same ..)
  have E1 : Ext w w1 := Ext.trans (by repeat (first | exact Ext.refl _ | assumption | refine Ext.alloc ?_ _ | refine Ext.drew ?_ | refine Ext.setCell ?_ (by first | (simp; done) | (dsimp only; omega)) _ | refine Ext.trans ?_ (by assumption))) hb1
  have hlt1 := heap_lt hbx
  have hFA : ∀ x ∈ FA, w.heap.size < x := fun x hx => by have := hF2 x hx; omega
  have HBX := Lib.hid ((hE2.block _ hlt1).trans hbx)
  have HA2 := Lib.hid hC2
  have HFA := Lib.hid hFA
  have HE2 := Lib.hid (E1.trans hE2)
  have hltA := Lib.hid hC2.lt
  have hnd := Lib.hid hC2.nodup
  have ⟨hr1, hr2⟩ := hC2.room
  have hs2 := hE2.size
  clear hC2 hE2 hF2 hFA hb1 E1 hbx
  have k4 := keysOf_length L
  go_upto_region 4 with (first | (go_at_call 26; refine (HR.out _ HE2.out).mono ?_; rintro e w3 ⟨cb, FB, rfl, hC3, hE3, hF3⟩))
  have HA3 := Lib.hid (HA2.out.ext hE3)
  have HB3 := Lib.hid hC3
  have hFB : ∀ x ∈ FB, w.heap.size < x := fun x hx => by have := hF3 x hx; omega
  have HFB := Lib.hid hFB
  have hap : ∀ x ∈ FB, x ∉ FA := fun x hx hx2 => by have := hF3 x hx; have := hltA.out x hx2; omega
  have HAP := Lib.hid hap
  have hltB := Lib.hid hC3.lt
  have HE3 := Lib.hid (HE2.out.trans hE3)
  have HBX3 := Lib.hid ((hE3.block _ (by omega)).trans HBX.out)
  have hs3 := hE3.size
  clear hC3 hE3 hF3 hFB hap
  go_upto_region 7 with (first | (go_at_call 25; refine (keys_c ca FA L r _ (HA3.out.ext (by repeat (first | exact Ext.refl _ | assumption | refine Ext.alloc ?_ _ | refine Ext.drew ?_ | refine Ext.setCell ?_ (by first | (simp; done) | (dsimp only; omega)) _ | refine Ext.trans ?_ (by assumption))))).mono ?_; rintro e w4 ⟨v4, rfl, hv4, hE4, hG4⟩; obtain ⟨a4, c4, rfl, hn4, hm4⟩ := hv4.form))
  unfold maxLen at hm4
  rw [k4] at hv4 hn4 hG4
  have hGA : ∀ g, (Value.slice a4 L.length c4).ownBlock = some g → g ∉ FA ∧ g ∉ FB := fun g hg => ⟨fun hx => by have := hG4 g hg; have := hltA.out g hx; omega, fun hx => by have := hG4 g hg; have := hltB.out g hx; omega⟩
  have HV4 := Lib.hid hv4
  have HG := Lib.hid hGA
  have HA4 := Lib.hid (HA3.out.ext hE4)
  have HB4 := Lib.hid (HB3.out.ext hE4)
  have HE4 := Lib.hid (HE3.out.trans hE4)
  have hs4 := hE4.size
  have hg4 := Lib.hid hv4.lt
  have HBX4 := Lib.hid ((hE4.block _ (by omega)).trans HBX3.out)
  have x0 := (heap_cell HBX4.out 0).trans rfl
  have x1 := (heap_cell HBX4.out 1).trans rfl
  have x2 := (heap_cell HBX4.out 2).trans rfl
  clear hv4 hGA hE4 hG4
  go_upto_region 8 with (first | (go_at_call 27; refine (drop_c ca FA L r ⟨p, l, t⟩ _ (HA4.out.ext (by repeat (first | exact Ext.refl _ | assumption | refine Ext.alloc ?_ _ | refine Ext.drew ?_ | refine Ext.setCell ?_ (by first | (simp; done) | (dsimp only; omega)) _ | refine Ext.trans ?_ (by assumption))))).mono ?_; rintro e w5 ⟨rfl, F5, hC5, hK5, hF5⟩))
  have HA5 := Lib.hid hC5
  have HB5 := Lib.hid (HB4.out.keeps hK5 HAP.out)
  have HV5 := Lib.hid (HV4.out.keep fun g hg => hK5.block g (hg4.out g hg) (HG.out g hg).1)
  have HE5 := Lib.hid (Keeps.to_ext HE4.out hK5 fun x hx => Nat.le_of_lt (HFA.out x hx))
  have hs5 := hK5.size
  have HBX5 := Lib.hid ((hK5.block _ (by omega) (fun h => by have := HFA.out _ h; omega)).trans HBX4.out)
  have hap5 : ∀ x ∈ F5, x ∉ FB := fun x hx hx2 => (hF5 x hx).elim (HAP.out x hx2) fun h => by have := hltB.out x hx2; omega
  have HAP5 := Lib.hid hap5
  clear hC5 hK5 hF5 hap5 x0 x1 x2
  have x0 := (heap_cell HBX5.out 0).trans rfl
  go_upto_region 9 with (first | (go_at_call 28; refine (dropOf_c cb FB L r p _ (HB5.out.ext (by repeat (first | exact Ext.refl _ | assumption | refine Ext.alloc ?_ _ | refine Ext.drew ?_ | refine Ext.setCell ?_ (by first | (simp; done) | (dsimp only; omega)) _ | refine Ext.trans ?_ (by assumption))))).mono ?_; rintro e w6 ⟨rfl, F6, hC6, hK6, hF6⟩))
  rw [dropN_filtL hnd.out] at hC6
  have HB6 := Lib.hid hC6
  have HA6 := Lib.hid (HA5.out.keeps hK6 HAP5.out)
  have HV6 := Lib.hid (HV5.out.keep fun g hg => hK6.block g (by have := hg4.out g hg; omega) (HG.out g hg).2)
  have HE6 := Lib.hid (Keeps.to_ext HE5.out hK6 fun x hx => Nat.le_of_lt (HFB.out x hx))
  have hs6 := hK6.size
  have HBX6 := Lib.hid ((hK6.block _ (by omega) (fun h => by have := HFB.out _ h; omega)).trans HBX5.out)
  clear hC6 hK6 hF6 x0
  have ko := keys_del (k := ⟨p, l, t⟩) hnd.out
  have kw := keys_filt (p := p) (L := L)
  have hno : hasK ⟨p, l, t⟩ (delL ⟨p, l, t⟩ L) = false := by
    cases h : hasK ⟨p, l, t⟩ (delL ⟨p, l, t⟩ L) with
    | false => rfl
    | true => have := hasK_iff.1 h; rw [ko] at this; simp at this
  generalize delL ⟨p, l, t⟩ L = L5 at HA6 ko hno HA5
  generalize filtL p L = L6 at HB6 kw
  have k5 := keysOf_length L5
  have k6 := keysOf_length L6
  have ⟨hr5, _⟩ := HA6.out.room
  have ⟨hr6, _⟩ := HB6.out.room
  have KO := Aside.mk ko
  have KW := Aside.mk kw
  clear ko kw HA5 HA4 HA3 HA2 HB3 HB4 HB5
  go_upto_region 10 with (first | (go_at_call 25; refine (keys_c ca F5 L5 r _ (HA6.out.ext (by repeat (first | exact Ext.refl _ | assumption | refine Ext.alloc ?_ _ | refine Ext.drew ?_ | refine Ext.setCell ?_ (by first | (simp; done) | (dsimp only; omega)) _ | refine Ext.trans ?_ (by assumption))))).mono ?_; rintro e w7 ⟨v7, rfl, hv7, hE7, -⟩; obtain ⟨a7, c7, rfl, hn7, hm7⟩ := hv7.form))
  unfold maxLen at hm7
  rw [k5] at hn7 hv7
  have HV7 := Lib.hid hv7
  have HE7 := Lib.hid hE7
  have HB7 := Lib.hid (HB6.out.ext hE7)
  clear hv7 hE7
  go_upto_region 11 with (first | (go_at_call 25; refine (keys_c cb F6 L6 r _ (HB7.out.ext (by repeat (first | exact Ext.refl _ | assumption | refine Ext.alloc ?_ _ | refine Ext.drew ?_ | refine Ext.setCell ?_ (by first | (simp; done) | (dsimp only; omega)) _ | refine Ext.trans ?_ (by assumption))))).mono ?_; rintro e w8 ⟨v8, rfl, hv8, hE8, -⟩; obtain ⟨a8, c8, rfl, hn8, hm8⟩ := hv8.form))
  unfold maxLen at hm8
  rw [k6] at hn8 hv8
  have HV8 := Lib.hid hv8
  have HVO := Lib.hid (HV7.out.ext hE8)
  have HVA := Lib.hid ((HV6.out.ext HE7.out).ext hE8)
  have HA8 := Lib.hid ((HA6.out.ext HE7.out).ext hE8)
  have HE8 := Lib.hid (HE6.out.trans (HE7.out.trans hE8))
  have HBX8 := Lib.hid ((hE8.block _ (by have := HE7.out.size; omega)).trans ((HE7.out.block _ (by omega)).trans HBX6.out))
  have hs8 := heap_lt HBX8.out
  clear hv8 hE8 HV7 HB7 HV6 HA6 HB6
  go_wp2
  go_loopw [13, 14, 15] (fun i j hh wr => ∃ h, h ≤ L.length ∧ hh = .int .i64 h ∧ i = .int .i64 (((keysOf L).take h).countP (· != ⟨p, l, t⟩) : Nat) ∧ j = .int .i64 (((keysOf L).take h).countP (·.p != p) : Nat) ∧ Hid (Ext w8 wr)) (fun _ _ i _ => L.length - (intOf i).toNat)
  case atStart => exact ⟨0, by omega, rfl, by simp, by simp, Lib.hid (Ext.refl _)⟩
  case round =>
    obtain ⟨h, hh, rfl, rfl, rfl, hR⟩ := hrel
    have hsr := hR.out.size
    have n1 : ((keysOf L).take h).countP (· != ⟨p, l, t⟩) ≤ h := Nat.le_trans List.countP_le_length (by simp; omega)
    have n2 : ((keysOf L).take h).countP (·.p != p) ≤ h := Nat.le_trans List.countP_le_length (by simp; omega)
    have hBR := (hR.out.block _ hs8).trans HBX8.out
    have hwl : w.heap.size < wr.heap.size := by omega
    have x0 : wr.cell? ⟨w.heap.size, 0, none⟩ = some (.int .i64 p) := (heap_cell hBR 0).trans rfl
    have x1 : wr.cell? ⟨w.heap.size, 1, none⟩ = some (.int .i64 l) := (heap_cell hBR 1).trans rfl
    have x2 : wr.cell? ⟨w.heap.size, 2, none⟩ = some (.int .u64 t) := (heap_cell hBR 2).trans rfl
    have HBR := Lib.hid hBR
    clear hBR
    by_cases hlt : h < L.length
    · have hlk : h < (keysOf L).length := by omega
      have c1 := count_next (P := (· != (⟨p, l, t⟩ : Key))) hlk
      have c2 := count_next (P := (fun x : Key => x.p != p)) hlk
      have f1 := filter_at (P := (· != (⟨p, l, t⟩ : Key))) hlk
      have f2 := filter_at (P := (fun x : Key => x.p != p)) hlk
      rw [← KO.out] at f1
      rw [← KW.out] at f2
      rw [k5] at f1
      rw [k6] at f2
      obtain ⟨z0, z1, z2⟩ := rowK_get (keysOf L) h hlk
      obtain ⟨g, hg⟩ : ∃ g, a4 = some ⟨g, 0, none⟩ := by
        rcases HVA.out.2 with ⟨_, h0⟩ | ⟨g, _, _, he, _⟩
        · omega
        · exact ⟨g, by injection he⟩
      subst hg
      have HRA := HVA.out.ext hR.out
      have y0 := HRA.cells (g := g) rfl _ _ z0
      have y1 := HRA.cells (g := g) rfl _ _ z1
      have y2 := HRA.cells (g := g) rfl _ _ z2
      have hgl := HRA.lt g rfl
      generalize kAt (keysOf L) h = kk at y0 y1 y2 c1 c2 f1 f2
      generalize hi1 : ((keysOf L).take h).countP (· != ⟨p, l, t⟩) = i1 at *
      generalize hi2 : ((keysOf L).take h).countP (·.p != p) = i2 at *
      have C1 := Aside.mk c1
      have C2 := Aside.mk c2
      clear c1 c2 z0 z1 z2 HRA hi1 hi2
      have oneAt : kk ≠ ⟨p, l, t⟩ → i1 < L5.length ∧ ∃ g7, a7 = some ⟨g7, 0, none⟩ ∧ g7 < wr.heap.size ∧ wr.cell? ⟨g7, i1 * 3, none⟩ = some (.int .i64 kk.p) ∧ wr.cell? ⟨g7, i1 * 3 + 1, none⟩ = some (.int .i64 kk.l) ∧ wr.cell? ⟨g7, i1 * 3 + 2, none⟩ = some (.int .u64 kk.t) := fun hk => by
        obtain ⟨q1, q2⟩ := f1 (by simpa using hk)
        obtain ⟨g7, rfl⟩ : ∃ g, a7 = some ⟨g, 0, none⟩ := by
          rcases HVO.out.2 with ⟨_, h0⟩ | ⟨g, _, _, he, _⟩
          · omega
          · exact ⟨g, by injection he⟩
        obtain ⟨z0, z1, z2⟩ := rowK_get (keysOf L5) i1 (by omega)
        rw [q2] at z0 z1 z2
        have HRO := HVO.out.ext hR.out
        exact ⟨q1, g7, rfl, HRO.lt g7 rfl, HRO.cells (g := g7) rfl _ _ z0, HRO.cells (g := g7) rfl _ _ z1, HRO.cells (g := g7) rfl _ _ z2⟩
      have ownAt : kk.p ≠ p → i2 < L6.length ∧ ∃ g8, a8 = some ⟨g8, 0, none⟩ ∧ g8 < wr.heap.size ∧ wr.cell? ⟨g8, i2 * 3, none⟩ = some (.int .i64 kk.p) ∧ wr.cell? ⟨g8, i2 * 3 + 1, none⟩ = some (.int .i64 kk.l) ∧ wr.cell? ⟨g8, i2 * 3 + 2, none⟩ = some (.int .u64 kk.t) := fun hk => by
        obtain ⟨q1, q2⟩ := f2 (by simpa using hk)
        obtain ⟨g8, rfl⟩ : ∃ g, a8 = some ⟨g, 0, none⟩ := by
          rcases HV8.out.2 with ⟨_, h0⟩ | ⟨g, _, _, he, _⟩
          · omega
          · exact ⟨g, by injection he⟩
        obtain ⟨z0, z1, z2⟩ := rowK_get (keysOf L6) i2 (by omega)
        rw [q2] at z0 z1 z2
        have HRO := HV8.out.ext hR.out
        exact ⟨q1, g8, rfl, HRO.lt g8 rfl, HRO.cells (g := g8) rfl _ _ z0, HRO.cells (g := g8) rfl _ _ z1, HRO.cells (g := g8) rfl _ _ z2⟩
      clear f1 f2
      obtain ⟨kp, kl, kt⟩ := kk
      dsimp only at *
      have hkB : keyB ⟨kp, kl, kt⟩ ⟨kp, kl, kt⟩ = true := by simp [keyB]
      by_cases hk : (⟨kp, kl, kt⟩ : Key) = ⟨p, l, t⟩
      · have hp : kp = p := by injection hk
        have hkE : keyB ⟨kp, kl, kt⟩ ⟨p, l, t⟩ = true := by simp [keyB, hk]
        have hpE : (kp != p) = false := by simp [hp]
        have HK := Aside.mk hk
        have HP := Aside.mk hp
        clear hk hp oneAt ownAt
        go_upto_region 16 with (fail)
        refine region_ext (by kernel_rfl) (by kernel_rfl) ?_; (repeat (go_big_quiet_step (fail))); refine wpQuiet_nil ?_; intro w1 hb; have ⟨hc, hf, hh, hs⟩ := hb.facts; try simp only [World.size_alloc, World.size_setCell, World.size_drew] at hs
        have HQ1 := Lib.hid hb
        have y0 := HQ1.out.someCell y0
        have y1 := HQ1.out.someCell y1
        have y2 := HQ1.out.someCell y2
        have x0 := HQ1.out.someCell x0
        have x1 := HQ1.out.someCell x1
        have x2 := HQ1.out.someCell x2
        have q1 := hs
        clear hb hc hf hh hs
        go_upto_region 20 with (fail)
        refine region_ext (by kernel_rfl) (by kernel_rfl) ?_; (repeat (go_big_quiet_step (fail))); refine wpQuiet_nil ?_; intro w1 hb; have ⟨hc, hf, hh, hs⟩ := hb.facts; try simp only [World.size_alloc, World.size_setCell, World.size_drew] at hs
        have HQ3 := Lib.hid hb
        have y0 := HQ3.out.someCell y0
        have y1 := HQ3.out.someCell y1
        have y2 := HQ3.out.someCell y2
        have x0 := HQ3.out.someCell x0
        have x1 := HQ3.out.someCell x1
        have x2 := HQ3.out.someCell x2
        have q3 := hs
        clear hb hc hf hh hs
        go_wp2
        refine ⟨⟨h + 1, by omega, by go_num, ?_, ?_, Lib.hid ((hR.out.trans HQ1.out).trans HQ3.out)⟩, by simp [intOf]; omega⟩
        · rw [C1.out, if_neg (by simpa using HK.out)]; go_num
        · rw [C2.out, if_neg (by simpa using HP.out)]; go_num
      · obtain ⟨u1, g7, rfl, u2, o0, o1, o2⟩ := oneAt hk
        have hd1 : decide (L5.length ≤ i1) = false := by simp; omega
        have hkE : keyB ⟨kp, kl, kt⟩ ⟨p, l, t⟩ = false := by simpa [keyB] using hk
        have HK := Aside.mk hk
        by_cases hp : kp = p
        · have hpE : (kp != p) = false := by simp [hp]
          have HP := Aside.mk hp
          clear hk hp oneAt ownAt
          go_upto_region 16 with (fail)
          refine region_ext (by kernel_rfl) (by kernel_rfl) ?_; (repeat (go_big_quiet_step (fail))); refine wpQuiet_nil ?_; intro w1 hb; have ⟨hc, hf, hh, hs⟩ := hb.facts; try simp only [World.size_alloc, World.size_setCell, World.size_drew] at hs
          have HQ1 := Lib.hid hb
          have y0 := HQ1.out.someCell y0
          have y1 := HQ1.out.someCell y1
          have y2 := HQ1.out.someCell y2
          have x0 := HQ1.out.someCell x0
          have x1 := HQ1.out.someCell x1
          have x2 := HQ1.out.someCell x2
          have o0 := HQ1.out.someCell o0
          have o1 := HQ1.out.someCell o1
          have o2 := HQ1.out.someCell o2
          have q1 := hs
          clear hb hc hf hh hs
          go_upto_region 17 with (fail)
          refine region_ext (by kernel_rfl) (by kernel_rfl) ?_; (repeat (go_big_quiet_step (fail))); refine wpQuiet_nil ?_; intro w1 hb; have ⟨hc, hf, hh, hs⟩ := hb.facts; try simp only [World.size_alloc, World.size_setCell, World.size_drew] at hs
          have HQ2 := Lib.hid hb
          have y0 := HQ2.out.someCell y0
          have y1 := HQ2.out.someCell y1
          have y2 := HQ2.out.someCell y2
          have x0 := HQ2.out.someCell x0
          have x1 := HQ2.out.someCell x1
          have x2 := HQ2.out.someCell x2
          have o0 := HQ2.out.someCell o0
          have o1 := HQ2.out.someCell o1
          have o2 := HQ2.out.someCell o2
          have q2 := hs
          clear hb hc hf hh hs
          go_upto_region 20 with (fail)
          refine region_ext (by kernel_rfl) (by kernel_rfl) ?_; (repeat (go_big_quiet_step (fail))); refine wpQuiet_nil ?_; intro w1 hb; have ⟨hc, hf, hh, hs⟩ := hb.facts; try simp only [World.size_alloc, World.size_setCell, World.size_drew] at hs
          have HQ3 := Lib.hid hb
          have y0 := HQ3.out.someCell y0
          have y1 := HQ3.out.someCell y1
          have y2 := HQ3.out.someCell y2
          have x0 := HQ3.out.someCell x0
          have x1 := HQ3.out.someCell x1
          have x2 := HQ3.out.someCell x2
          have o0 := HQ3.out.someCell o0
          have o1 := HQ3.out.someCell o1
          have o2 := HQ3.out.someCell o2
          have q3 := hs
          clear hb hc hf hh hs
          go_wp2
          refine ⟨⟨h + 1, by omega, by go_num, ?_, ?_, Lib.hid (((hR.out.trans HQ1.out).trans HQ2.out).trans HQ3.out)⟩, by simp [intOf]; omega⟩
          · rw [C1.out, if_pos (by simpa using HK.out)]; go_num
          · rw [C2.out, if_neg (by simpa using HP.out)]; go_num
        · obtain ⟨u3, g8, rfl, u4, z0, z1, z2⟩ := ownAt hp
          have hd2 : decide (L6.length ≤ i2) = false := by simp; omega
          have hpE : (kp != p) = true := by simpa using hp
          have HP := Aside.mk hp
          clear hk hp oneAt ownAt
          go_upto_region 16 with (fail)
          refine region_ext (by kernel_rfl) (by kernel_rfl) ?_; (repeat (go_big_quiet_step (fail))); refine wpQuiet_nil ?_; intro w1 hb; have ⟨hc, hf, hh, hs⟩ := hb.facts; try simp only [World.size_alloc, World.size_setCell, World.size_drew] at hs
          have HQ1 := Lib.hid hb
          have y0 := HQ1.out.someCell y0
          have y1 := HQ1.out.someCell y1
          have y2 := HQ1.out.someCell y2
          have x0 := HQ1.out.someCell x0
          have x1 := HQ1.out.someCell x1
          have x2 := HQ1.out.someCell x2
          have o0 := HQ1.out.someCell o0
          have o1 := HQ1.out.someCell o1
          have o2 := HQ1.out.someCell o2
          have z0 := HQ1.out.someCell z0
          have z1 := HQ1.out.someCell z1
          have z2 := HQ1.out.someCell z2
          have q1 := hs
          clear hb hc hf hh hs
          go_upto_region 17 with (fail)
          refine region_ext (by kernel_rfl) (by kernel_rfl) ?_; (repeat (go_big_quiet_step (fail))); refine wpQuiet_nil ?_; intro w1 hb; have ⟨hc, hf, hh, hs⟩ := hb.facts; try simp only [World.size_alloc, World.size_setCell, World.size_drew] at hs
          have HQ2 := Lib.hid hb
          have y0 := HQ2.out.someCell y0
          have y1 := HQ2.out.someCell y1
          have y2 := HQ2.out.someCell y2
          have x0 := HQ2.out.someCell x0
          have x1 := HQ2.out.someCell x1
          have x2 := HQ2.out.someCell x2
          have o0 := HQ2.out.someCell o0
          have o1 := HQ2.out.someCell o1
          have o2 := HQ2.out.someCell o2
          have z0 := HQ2.out.someCell z0
          have z1 := HQ2.out.someCell z1
          have z2 := HQ2.out.someCell z2
          have q2 := hs
          clear hb hc hf hh hs
          go_upto_region 20 with (fail)
          refine region_ext (by kernel_rfl) (by kernel_rfl) ?_; (repeat (go_big_quiet_step (fail))); refine wpQuiet_nil ?_; intro w1 hb; have ⟨hc, hf, hh, hs⟩ := hb.facts; try simp only [World.size_alloc, World.size_setCell, World.size_drew] at hs
          have HQ3 := Lib.hid hb
          have y0 := HQ3.out.someCell y0
          have y1 := HQ3.out.someCell y1
          have y2 := HQ3.out.someCell y2
          have x0 := HQ3.out.someCell x0
          have x1 := HQ3.out.someCell x1
          have x2 := HQ3.out.someCell x2
          have o0 := HQ3.out.someCell o0
          have o1 := HQ3.out.someCell o1
          have o2 := HQ3.out.someCell o2
          have z0 := HQ3.out.someCell z0
          have z1 := HQ3.out.someCell z1
          have z2 := HQ3.out.someCell z2
          have q3 := hs
          clear hb hc hf hh hs
          go_upto_region 21 with (fail)
          refine region_ext (by kernel_rfl) (by kernel_rfl) ?_; (repeat (go_big_quiet_step (fail))); refine wpQuiet_nil ?_; intro w1 hb; have ⟨hc, hf, hh, hs⟩ := hb.facts; try simp only [World.size_alloc, World.size_setCell, World.size_drew] at hs
          have HQ4 := Lib.hid hb
          have y0 := HQ4.out.someCell y0
          have y1 := HQ4.out.someCell y1
          have y2 := HQ4.out.someCell y2
          have x0 := HQ4.out.someCell x0
          have x1 := HQ4.out.someCell x1
          have x2 := HQ4.out.someCell x2
          have o0 := HQ4.out.someCell o0
          have o1 := HQ4.out.someCell o1
          have o2 := HQ4.out.someCell o2
          have z0 := HQ4.out.someCell z0
          have z1 := HQ4.out.someCell z1
          have z2 := HQ4.out.someCell z2
          have q4 := hs
          clear hb hc hf hh hs
          go_wp2
          refine ⟨⟨h + 1, by omega, by go_num, ?_, ?_, Lib.hid ((((hR.out.trans HQ1.out).trans HQ2.out).trans HQ3.out).trans HQ4.out)⟩, by simp [intOf]; omega⟩
          · rw [C1.out, if_pos (by simpa using HK.out)]; go_num
          · rw [C2.out, if_pos (by simpa using HP.out)]; go_num
    · have hle : h = L.length := by omega
      have e1 : ((keysOf L).take h).countP (· != ⟨p, l, t⟩) = L5.length := by
        rw [List.take_of_length_le (by omega), List.countP_eq_length_filter, ← KO.out, k5]
      have e2 : ((keysOf L).take h).countP (·.p != p) = L6.length := by
        rw [List.take_of_length_le (by omega), List.countP_eq_length_filter, ← KW.out, k6]
      rw [e1, e2]
      clear e1 e2 n1 n2
      have hget := fun w1 hx => get_c ca F5 L5 r ⟨p, l, t⟩ w1 (HA8.out.ext (hR.out.trans hx))
      rw [hno] at hget
      generalize getLine ⟨p, l, t⟩ L5 = yy at hget
      obtain ⟨yf, ya, yb, yc, yd, ym⟩ := yy
      unfold Key.val Line.val at hget
      have HGet := Lib.hid hget
      have HEND := Lib.hid (HE8.out.trans hR.out)
      clear hget
      go_upto_region 25 with (first | (go_at_call 29; refine (HGet.out _ (by repeat (first | exact Ext.refl _ | assumption | refine Ext.alloc ?_ _ | refine Ext.drew ?_ | refine Ext.setCell ?_ (by first | (simp; done) | (dsimp only; omega)) _ | refine Ext.trans ?_ (by assumption)))).mono ?_; rintro e w9 ⟨rfl, hb9⟩))
      go_wp2
      go_ret
      exact ⟨rfl, HEND.out.trans ((Ext.trans (by repeat (first | exact Ext.refl _ | assumption | refine Ext.alloc ?_ _ | refine Ext.drew ?_ | refine Ext.setCell ?_ (by first | (simp; done) | (dsimp only; omega)) _ | refine Ext.trans ?_ (by assumption))) hb9).alloc _)⟩

theorem cacheDrops_walk (W : World) (args : List Value) (h : ArgsAre W [.int .u8, .slice deedD, keyD] args) :
    Calls Try.prog 4 args.toArray W fun e w' => e = .returned (.bool true) ∧ Ext W w' := by
  obtain ⟨_, _, rfl, ⟨a, h2, ha⟩, v, _, rfl, hv, _, _, rfl, ⟨cs, rfl, hl, h1⟩, rfl⟩ := h
  simp only [List.cons.injEq, and_true] at h2
  subst h2
  obtain ⟨ds, hds⟩ := deeds_of hv
  obtain ⟨k, rfl⟩ := key_is (by simpa [keyD, Dsc.size, Dsc.sizes] using hl) h1
  have ⟨i0, i1⟩ := bounds_u8 ha
  exact cacheDrops_c a v ds k W i0 i1 hds

theorem cacheDropsDscs : okParams Try.prog [.int .u8, .slice deedD, keyD] Try.f4.params.toList = true := by kernel_rfl
set_option maxRecDepth 100000 in
theorem cacheDrops_lifted (os : Os) (started : os.Started) (H : Type) (enc : TypeId × Value → H) :
    ReturnsInHanded {} Try.checked os 4 .any (Rows.cacheDropsSpec.pre6 enc Try.prog Try.f4 Rows.cacheDropsRow.domain false) (Rows.cacheDropsSpec.post enc Try.prog Try.f4 false true false false) :=
  law_lift (C := Try.checked) [.int .u8, .slice deedD, keyD] (by kernel_rfl) started (by kernel_rfl) Try.func4
    (ChangeSpec.witness6 (enc := enc) (C := Try.checked) false ⟨#[], #[.int .u8 0, .slice none 0 0, .agg #[.int .i64 0, .int .i64 0, .int .u64 0] ], []⟩ 8 (by kernel_rfl) (by kernel_rfl) (by kernel_rfl) (by kernel_rfl))
    (by kernel_rfl) cacheDropsDscs rfl Try.underlying4 rfl (fun ds h => by
      first
        | (obtain ⟨a, rfl⟩ := len1 h; rfl)
        | (obtain ⟨a, b, rfl⟩ := len2 h; rfl)
        | (obtain ⟨a, b, c, rfl⟩ := len3 h; rfl)
        | (obtain ⟨a, b, c, d, rfl⟩ := len4 h; rfl)) cacheDrops_walk
theorem cacheDrops_holds : Rows.CacheDropsSaid :=
  OpenClaim.holds_of_wide 4 Try.f4 rfl rfl rfl rfl rfl rfl rfl ⟨rfl, rfl, rfl, rfl, rfl⟩ rfl rfl rfl rfl rfl (by kernel_rfl) Try.func4 (by kernel_rfl)
    (of_decide_eq_true (by kernel_rfl)) (by unfold Func.isWrapper; first | (rw [if_pos (by decide +kernel)]; kernel_rfl) | (rw [if_neg (by decide +kernel)]; exact ⟨rfl, rfl⟩))
    (fun os started H enc _ => cacheDrops_lifted os started H enc)
#print axioms cacheDrops_holds
end Go.Proofs.Ytnacgmmkmedpdaa
