/- CacheNobody: a cache that is nil keeps nothing: for every deed. -/
import Derived.Test.YtnacgmmkmedpdaaLawCF
namespace Go.Proofs.Ytnacgmmkmedpdaa
set_option linter.unusedVariables false
set_option linter.unusedSimpArgs false
open Go.RowKit
attribute [local go_sem] wext_cell wext_frozen wext_heap alloc_cell alloc_frozen alloc_heap setCell_cell objCell_cells objFrozen_cells

theorem nil_get2 (p l t : Int) (w : World) : Calls Try.prog 29 #[.pointer none, .agg #[.int .i64 p, .int .i64 l, .int .u64 t]] w fun e w' => e = .returned (.tuple #[.agg #[.int .u64 0, .bool false, .bool false, .bool false, .bool false, .int .u8 0], .bool false]) ∧ Ext w w' := nil_get ⟨p, l, t⟩ w
set_option maxHeartbeats 2000000 in
set_option maxRecDepth 20000 in
theorem cacheNobody_c (d : Deed) (w : World) (hd : d.ok) : Calls Try.prog 8 #[d.val] w fun e w' => e = .returned (.bool true) ∧ Ext w w' := by
  obtain ⟨kind, pick, ⟨p, l, t⟩, ⟨xf, xa, xb, xc, xd, xm⟩⟩ := d
  obtain ⟨hp0, hp1⟩ := hd
  dsimp only at hp0 hp1
  unfold Deed.val
  dsimp only
  go_enter Try.func8, Try.ntmps8
  go_upto_region 3 with (first | (go_at_call 21; refine (awake10_c _).mono ?_; rintro e wz ⟨rfl, hb1⟩))
  have m1 := (hb1.block w.heap.size (by simp)).trans (alloc_same ..)
  have E1 : Ext w wz := Ext.trans (by repeat (first | exact Ext.refl _ | assumption | refine Ext.alloc ?_ _ | refine Ext.drew ?_ | refine Ext.setCell ?_ (by first | (simp; done) | (dsimp only; omega)) _ | refine Ext.trans ?_ (by assumption))) hb1
  have x1 := (heap_cell m1 1).trans rfl
  have x2 := (heap_cell m1 2).trans rfl
  have x3 := (heap_cell m1 3).trans rfl
  have x4 := (heap_cell m1 4).trans rfl
  have x5 := (heap_cell m1 5).trans rfl
  have x6 := (heap_cell m1 6).trans rfl
  have x7 := (heap_cell m1 7).trans rfl
  have x8 := (heap_cell m1 8).trans rfl
  have x9 := (heap_cell m1 9).trans rfl
  have x10 := (heap_cell m1 10).trans rfl
  have hlt := heap_lt m1
  have M1 := Lib.hid m1
  have HE1 := Lib.hid E1
  clear m1 hb1 E1
  go_upto_region 9 with (first | (go_at_call 36; refine (nil_put ⟨p, l, t⟩ ⟨xf, xa, xb, xc, xd, xm⟩ pick _).mono ?_; rintro e w1 ⟨rfl, hb⟩; have ⟨hc, hf, hh, hs⟩ := hb.facts; try simp only [World.size_alloc, World.size_setCell, World.size_drew] at hs) | (go_at_call 27; refine (nil_drop ⟨p, l, t⟩ _).mono ?_; rintro e w1 ⟨rfl, hb⟩; have ⟨hc, hf, hh, hs⟩ := hb.facts; try simp only [World.size_alloc, World.size_setCell, World.size_drew] at hs) | (go_at_call 28; refine (nil_dropOf p _).mono ?_; rintro e w1 ⟨rfl, hb⟩; have ⟨hc, hf, hh, hs⟩ := hb.facts; try simp only [World.size_alloc, World.size_setCell, World.size_drew] at hs) | (go_at_call 32; refine (nil_clear _).mono ?_; rintro e w1 ⟨rfl, hb⟩; have ⟨hc, hf, hh, hs⟩ := hb.facts; try simp only [World.size_alloc, World.size_setCell, World.size_drew] at hs) | (go_at_call 30; refine (nil_evict pick _).mono ?_; rintro e w1 ⟨rfl, hb⟩; have ⟨hc, hf, hh, hs⟩ := hb.facts; try simp only [World.size_alloc, World.size_setCell, World.size_drew] at hs) | (go_at_call 29; refine (nil_get2 p l t _).mono ?_; rintro e w1 ⟨rfl, hb⟩; have ⟨hc, hf, hh, hs⟩ := hb.facts; try simp only [World.size_alloc, World.size_setCell, World.size_drew] at hs))
  refine wp_gen ?_; intro W hW
  have EW : Ext wz W := by rw [hW]; exact (by repeat (first | exact Ext.refl _ | assumption | refine Ext.alloc ?_ _ | refine Ext.drew ?_ | refine Ext.setCell ?_ (by first | (simp; done) | (dsimp only; omega)) _ | refine Ext.trans ?_ (by assumption)))
  have HW := Lib.hid EW
  have HEW := Lib.hid (HE1.out.trans EW)
  have hz := EW.size
  rename_i wa1 b1 c1 f1 h1 s1 wa2 b2 c2 f2 h2 s2 wa3 b3 c3 f3 h3 s3 wa4 b4 c4 f4 h4 s4 wa5 b5 c5 f5 h5 s5 Kx hKx
  clear c1 f1 h1 c2 f2 h2 c3 f3 h3 c4 f4 h4 c5 f5 h5
  clear hW EW hs hc hf hh x1 x2 x3 x4 x5 x6 x7 x8 x9 x10
  have hn1 : ∀ w, Calls Try.prog 22 #[.int .i64 (-1)] w (EndNew (-1) w) := fun w => new_c (-1) w (by omega) (by omega)
  have hn2 : ∀ w, Calls Try.prog 22 #[.int .i64 1000] w (EndNew 1000 w) := fun w => new_c 1000 w (by omega) (by omega)
  unfold EndNew at hn1 hn2
  rw [show clampR (-1) = 0 from rfl] at hn1
  rw [show clampR 1000 = 64 from rfl] at hn2
  have N1 := Lib.hid hn1
  have N2 := Lib.hid hn2
  clear hn1 hn2
  go_upto_region 10 with (first | (go_at_call 22; refine (N1.out _).mono ?_; rintro e wa ⟨nb, NF, rfl, hCa, hEa, hFa⟩))
  have CA := Lib.hid hCa
  have EA := Lib.hid hEa
  have hla := hCa.lt
  clear hCa hEa
  go_upto_region 11 with (first | (go_at_call 22; refine (N2.out _).mono ?_; rintro e wb ⟨mb, MF, rfl, hCb, hEb, hFb⟩))
  have CA2 := Lib.hid (CA.out.ext hEb)
  have CB := Lib.hid hCb
  have EB := Lib.hid (EA.out.trans hEb)
  have hsb := hEb.size
  clear hCb hEb
  have M2 := Lib.hid ((EB.out.block _ (by omega)).trans ((HW.out.block _ hlt).trans M1.out))
  have x1 := (heap_cell M2.out 1).trans rfl
  have x2 := (heap_cell M2.out 2).trans rfl
  have x3 := (heap_cell M2.out 3).trans rfl
  have x4 := (heap_cell M2.out 4).trans rfl
  have x5 := (heap_cell M2.out 5).trans rfl
  have x6 := (heap_cell M2.out 6).trans rfl
  have x7 := (heap_cell M2.out 7).trans rfl
  have x8 := (heap_cell M2.out 8).trans rfl
  have x9 := (heap_cell M2.out 9).trans rfl
  have x10 := (heap_cell M2.out 10).trans rfl
  go_upto_region 14 with (first | (go_at_call 36; refine (put_c nb NF [] 0 ⟨p, l, t⟩ ⟨xf, xa, xb, xc, xd, xm⟩ pick _ (CA2.out.ext (by repeat (first | exact Ext.refl _ | assumption | refine Ext.alloc ?_ _ | refine Ext.drew ?_ | refine Ext.setCell ?_ (by first | (simp; done) | (dsimp only; omega)) _ | refine Ext.trans ?_ (by assumption)))) hp0 hp1).mono ?_; rintro e wc ⟨rfl, F3, hC3, hK3, hF3⟩))
  rw [show putC ⟨p, l, t⟩ ⟨xf, xa, xb, xc, xd, xm⟩ pick 0 [] = [] by unfold putC; rw [if_pos rfl]] at hC3
  have hfr : ∀ x ∈ NF, w.heap.size ≤ x := fun x hx => by have := hFa x hx; have := HEW.out.size; omega
  have HEC := Lib.hid (Keeps.to_ext (HEW.out.trans EB.out) hK3 hfr)
  have CB3 := Lib.hid (CB.out.keeps hK3 fun x hx hx2 => by have := hFb x hx; have := hla x hx2; omega)
  have CA3 := Lib.hid hC3
  clear hC3 hK3 hF3 hFb hla hFa hfr x1 x2 x3 x4 x5 x6 x7 x8 x9 x10
  have rq : ∀ v w3, Ext wc w3 → (v = .pointer none ∨ v = .pointer (some ⟨nb, 0, none⟩) ∨ v = .pointer (some ⟨mb, 0, none⟩)) → Calls Try.prog 35 #[v] w3 fun e w' => ∃ r, e = .returned (.int .i64 r) ∧ Ext w3 w' ∧ (v = .pointer (some ⟨mb, 0, none⟩) → r = 64) ∧ (v = .pointer none ∨ v = .pointer (some ⟨nb, 0, none⟩) → r = 0) := by
    have hne : nb ≠ mb := fun e => by
      have h1 := CA3.out; have h2 := CB3.out
      obtain ⟨_, _, _, _, p1, _⟩ := h1
      obtain ⟨_, _, _, _, p2, _⟩ := h2
      rw [e, p2] at p1
      simp at p1
    rintro v w3 hx (rfl | rfl | rfl)
    · exact (nil_room w3).mono fun e w' h => ⟨0, h.1, h.2, fun h => by simp at h, fun _ => rfl⟩
    · exact (room_c nb F3 [] 0 w3 (CA3.out.ext hx)).mono fun e w' h => ⟨0, h.1, h.2, fun h => by simp [hne] at h, fun _ => rfl⟩
    · exact (room_c mb MF [] 64 w3 (CB3.out.ext hx)).mono fun e w' h => ⟨64, h.1, h.2, fun _ => rfl, fun h => by simp [hne.symm] at h⟩
  have kq : ∀ v w3, Ext wc w3 → (v = .pointer none ∨ v = .pointer (some ⟨nb, 0, none⟩)) → Calls Try.prog 25 #[v] w3 fun e w' => ∃ a c, e = .returned (.slice a 0 c) ∧ Ext w3 w' := by
    rintro v w3 hx (rfl | rfl)
    · exact (nil_keys w3).mono fun e w' h => ⟨_, _, h.1, h.2⟩
    · exact (keys_c nb F3 [] 0 w3 (CA3.out.ext hx)).mono fun e w' ⟨v, h1, h2, h3, _⟩ => by
        obtain ⟨a, c, rfl, -, -⟩ := h2.form
        exact ⟨a, c, h1, h3⟩
  have RQ := Lib.hid rq
  have KQ := Lib.hid kq
  clear rq kq
  go_wp2_with (first | (go_at_call 25; refine (KQ.out _ _ (by repeat (first | exact Ext.refl _ | assumption | refine Ext.alloc ?_ _ | refine Ext.drew ?_ | refine Ext.setCell ?_ (by first | (simp; done) | (dsimp only; omega)) _ | refine Ext.trans ?_ (by assumption))) (by first | exact .inl rfl | exact .inr rfl)).mono ?_; rintro e w1 ⟨ka, kc, rfl, hb⟩) | (go_at_call 35; refine (RQ.out _ _ (by repeat (first | exact Ext.refl _ | assumption | refine Ext.alloc ?_ _ | refine Ext.drew ?_ | refine Ext.setCell ?_ (by first | (simp; done) | (dsimp only; omega)) _ | refine Ext.trans ?_ (by assumption))) (by first | exact .inl rfl | exact .inr (.inl rfl) | exact .inr (.inr rfl))).mono ?_; rintro e w1 ⟨rr, rfl, hb, hr1, hr2⟩; first | (obtain rfl := hr2 (.inl rfl)) | (obtain rfl := hr2 (.inr rfl)) | (obtain rfl := hr1 rfl); clear hr1 hr2))
  go_ret
  exact ⟨rfl, HEC.out.trans (by repeat (first | exact Ext.refl _ | assumption | refine Ext.alloc ?_ _ | refine Ext.drew ?_ | refine Ext.setCell ?_ (by first | (simp; done) | (dsimp only; omega)) _ | refine Ext.trans ?_ (by assumption)))⟩

theorem cacheNobody_walk (W : World) (args : List Value) (h : ArgsAre W [deedD] args) :
    Calls Try.prog 8 args.toArray W fun e w' => e = .returned (.bool true) ∧ Ext W w' := by
  obtain ⟨_, _, rfl, ⟨cs, rfl, hl, h1⟩, rfl⟩ := h
  obtain ⟨d, hd, rfl⟩ := deed_is (by simpa [deedD, keyD, lineD, Dsc.size, Dsc.sizes] using hl) h1
  exact cacheNobody_c d W hd

theorem cacheNobodyDscs : okParams Try.prog [deedD] Try.f8.params.toList = true := by kernel_rfl
set_option maxRecDepth 100000 in
theorem cacheNobody_lifted (os : Os) (started : os.Started) (H : Type) (enc : TypeId × Value → H) :
    ReturnsInHanded {} Try.checked os 8 .any (Rows.cacheNobodySpec.pre6 enc Try.prog Try.f8 Rows.cacheNobodyRow.domain false) (Rows.cacheNobodySpec.post enc Try.prog Try.f8 false true false false) :=
  law_lift (C := Try.checked) [deedD] (by kernel_rfl) started (by kernel_rfl) Try.func8
    (ChangeSpec.witness6 (enc := enc) (C := Try.checked) false ⟨#[], #[.agg #[.int .i64 0, .int .i64 0, .int .i64 0, .int .i64 0, .int .u64 0, .int .u64 0, .bool false, .bool false, .bool false, .bool false, .int .u8 0] ], []⟩ 8 (by kernel_rfl) (by kernel_rfl) (by kernel_rfl) (by kernel_rfl))
    (by kernel_rfl) cacheNobodyDscs rfl Try.underlying4 rfl (fun ds h => by
      first
        | (obtain ⟨a, rfl⟩ := len1 h; rfl)
        | (obtain ⟨a, b, rfl⟩ := len2 h; rfl)
        | (obtain ⟨a, b, c, rfl⟩ := len3 h; rfl)
        | (obtain ⟨a, b, c, d, rfl⟩ := len4 h; rfl)) cacheNobody_walk
theorem cacheNobody_holds : Rows.CacheNobodySaid :=
  OpenClaim.holds_of_wide 8 Try.f8 rfl rfl rfl rfl rfl rfl rfl ⟨rfl, rfl, rfl, rfl, rfl⟩ rfl rfl rfl rfl rfl (by kernel_rfl) Try.func8 (by kernel_rfl)
    (of_decide_eq_true (by kernel_rfl)) (by unfold Func.isWrapper; first | (rw [if_pos (by decide +kernel)]; kernel_rfl) | (rw [if_neg (by decide +kernel)]; exact ⟨rfl, rfl⟩))
    (fun os started H enc _ => cacheNobody_lifted os started H enc)
#print axioms cacheNobody_holds
end Go.Proofs.Ytnacgmmkmedpdaa
