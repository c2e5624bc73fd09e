/- Translations: DropPage. -/
import Derived.Test.YtnacgmmkmedpdaaTlbC
namespace Go.Proofs.Ytnacgmmkmedpdaa
set_option linter.unusedVariables false
set_option linter.unusedSimpArgs false
open Go.RowKit
attribute [local go_sem] wext_cell wext_frozen wext_heap alloc_cell alloc_frozen alloc_heap setCell_cell objCell_cells objFrozen_cells

def LOk (L : List (Key × Line)) : Prop := ∀ y ∈ L, y.2.ok
theorem getLine_ok {k : Key} {L : List (Key × Line)} (h : LOk L) : (getLine k L).ok := by
  unfold getLine
  cases hl : look k L 0 with
  | none => exact ⟨by simp [noLine], by simp [noLine]⟩
  | some y =>
    obtain ⟨i, y⟩ := y
    exact h _ (List.mem_of_getElem? (look_some hl).2.1)
def dropPageL (p a : Int) (r : Nat) (L : List (Key × Line)) : List (Key × Line) :=
  let L2 := delL (kT p 3 a) (delL (kT p 2 a) L)
  if hasK (kT p 1 a) L2 = true then (if (outL (getLine (kT p 1 a) L2) (placeI a)).m = 0 then delL (kT p 1 a) L2 else putC (kT p 1 a) (outL (getLine (kT p 1 a) L2) (placeI a)) 0 r L2) else L2
theorem delL_sub {k : Key} {L : List (Key × Line)} : (delL k L).Sublist L := by
  unfold delL
  split
  · exact List.eraseIdx_sublist ..
  · exact List.Sublist.refl _
theorem LOk.sub {L L' : List (Key × Line)} (h : LOk L) (hs : L'.Sublist L) : LOk L' := fun y hy => h y (hs.subset hy)
theorem LOk.put {L : List (Key × Line)} {k : Key} {x : Line} {pick : Int} {r : Nat} (h : LOk L) (hx : x.ok) : LOk (putC k x pick r L) := by
  unfold putC
  split
  · exact h
  · split
    · unfold putL
      split
      · intro y hy
        rcases List.mem_or_eq_of_mem_set hy with hy | rfl
        · exact h y hy
        · exact hx
      · intro y hy
        rcases List.mem_append.1 hy with hy | hy
        · exact h y hy
        · obtain rfl : y = (k, x) := by simpa using hy
          exact hx
    · intro y hy
      rcases List.mem_append.1 hy with hy | hy
      · split at hy
        · exact h y hy
        · exact h y (evictL_sub.subset hy)
      · obtain rfl : y = (k, x) := by simpa using hy
        exact hx

theorem EndT.fin {w W : World} {tb cb : Nat} {F F5 : List Nat} {L L' : List (Key × Line)} {r : Nat} (h : TAt w tb cb F L r) (k : Keeps F w W) (c : CAt W cb F5 L' r) (f : ∀ x ∈ F5, x ∈ F ∨ w.heap.size ≤ x) :
    EndT tb cb F w L' r (.returned (.tuple #[])) W :=
  ⟨rfl, F5, ⟨(k.block tb (heap_lt h.1) h.out).trans h.1, c⟩, k, f⟩

set_option maxHeartbeats 2000000 in
theorem dropPage_c (tb cb : Nat) (F : List Nat) (L : List (Key × Line)) (r : Nat) (p a : Int) (w : World) (h : TAt w tb cb F L r) (hL : LOk L) (h0 : 0 ≤ a) (h1 : a ≤ 18446744073709551615) :
    Calls Try.prog 49 #[.pointer (some ⟨tb, 0, none⟩), .int .i64 p, .int .u64 a] w (EndT tb cb F w (dropPageL p a r L) r) := by
  have H := Lib.hid h
  have hk2 := fun w => tlbKey_c p 2 a w (.inr (.inl rfl)) h0 h1
  have hk3 := fun w => tlbKey_c p 3 a w (.inr (.inr rfl)) h0 h1
  have hk1 : ∀ w, Calls Try.prog 89 #[.int .i64 p, .int .i64 1, .int .u64 a] w fun e w' => e = .returned (.agg #[.int .i64 p, .int .i64 1, .int .u64 (a / 32768)]) ∧ Ext w w' := fun w => tlbKey_c p 1 a w (.inl rfl) h0 h1
  have hpl := fun w => tlbPlace_c a w h0 h1
  obtain ⟨hpl0, hpl1⟩ := placeI_lt a h0
  have hd2 := fun F L w h => drop_c cb F L r (kT p 2 a) w h
  have hd3 := fun F L w h => drop_c cb F L r (kT p 3 a) w h
  generalize hres : dropPageL p a r L = D
  unfold dropPageL at hres
  dsimp only at hres
  rw [show kT p 1 a = ⟨p, 1, a / 32768⟩ from rfl] at hres
  have hL2 : LOk (delL (kT p 3 a) (delL (kT p 2 a) L)) := (hL.sub delL_sub).sub delL_sub
  generalize kT p 2 a = k2 at *
  generalize kT p 3 a = k3 at *
  generalize hLa : delL k2 L = La at *
  generalize hLb : delL k3 La = Lb at *
  have HLA := Aside.mk hLa
  have HLB := Aside.mk hLb
  generalize a / 32768 = ta at *
  have hyo := getLine_ok (k := ⟨p, 1, ta⟩) hL2
  generalize placeI a = pl at *
  have hget := fun F w h => get_c cb F Lb r ⟨p, 1, ta⟩ w h
  have hout := fun w => gout_c (getLine ⟨p, 1, ta⟩ Lb) pl w hyo hpl0 hpl1
  generalize getLine ⟨p, 1, ta⟩ Lb = y at *
  generalize hasK ⟨p, 1, ta⟩ Lb = hy at *
  generalize outL y pl = o at *
  have hput := fun F w h => put_c cb F Lb r ⟨p, 1, ta⟩ o 0 w h (by omega) (by omega)
  have hdel := fun F w h => drop_c cb F Lb r ⟨p, 1, ta⟩ w h
  generalize putC ⟨p, 1, ta⟩ o 0 r Lb = LP at *
  generalize delL ⟨p, 1, ta⟩ Lb = LD at *
  obtain ⟨yf, ya, yb, yc, yd, ym⟩ := y
  obtain ⟨of, oa, ob, oc, od, om⟩ := o
  unfold Key.val Line.val at *
  dsimp only at *
  rw [← hres]
  have HK1 := Lib.hid hk1
  have HK2 := Lib.hid hk2
  have HK3 := Lib.hid hk3
  have HPL := Lib.hid hpl
  have HD2 := Lib.hid hd2
  have HD3 := Lib.hid hd3
  have HG := Lib.hid hget
  have HO := Lib.hid hout
  have HPU := Lib.hid hput
  have HDE := Lib.hid hdel
  clear hk1 hk2 hk3 hpl hd2 hd3 hget hout hput hdel hres hLa hLb hL2 h hL hyo
  generalize hE : EndT tb cb F w (if hy = true then if om = 0 then LD else LP else Lb) r = E
  have HEE := Aside.mk hE
  clear hE
  go_enter Try.func49, Try.ntmps49
  go_upto_region 2 with (first | (go_at_call 88; refine (cached_c tb cb _ (H.out.ext (by repeat (first | exact Ext.refl _ | assumption | refine Ext.alloc ?_ _ | refine Ext.drew ?_ | refine Ext.setCell ?_ (by first | (simp; done) | (dsimp only; omega)) _ | refine Ext.trans ?_ (by assumption)))).1).mono ?_; rintro e w1 ⟨rfl, hb1⟩) | (go_at_call 89; refine (HK2.out _).mono ?_; rintro e w2 ⟨rfl, hb2⟩) | (go_at_call 27; refine (HD2.out F L _ (H.out.ext (hb1.trans (Ext.trans (by repeat (first | exact Ext.refl _ | assumption | refine Ext.alloc ?_ _ | refine Ext.drew ?_ | refine Ext.setCell ?_ (by first | (simp; done) | (dsimp only; omega)) _ | refine Ext.trans ?_ (by assumption))) hb2))).2).mono ?_; rintro e w3 ⟨rfl, F3, q1, q2, q3⟩))
  rw [HLA.out] at q1
  have K3 : Hid (Keeps F w w3) := Lib.hid ((Keeps.of_ext (hb1.trans (Ext.trans (by repeat (first | exact Ext.refl _ | assumption | refine Ext.alloc ?_ _ | refine Ext.drew ?_ | refine Ext.setCell ?_ (by first | (simp; done) | (dsimp only; omega)) _ | refine Ext.trans ?_ (by assumption))) hb2))).same q2)
  have C3 := Lib.hid q1
  have F3h : Hid (∀ x ∈ F3, x ∈ F ∨ w.heap.size ≤ x) := Lib.hid fun x hx => (q3 x hx).imp id fun h => Nat.le_trans (hb1.trans (Ext.trans (by repeat (first | exact Ext.refl _ | assumption | refine Ext.alloc ?_ _ | refine Ext.drew ?_ | refine Ext.setCell ?_ (by first | (simp; done) | (dsimp only; omega)) _ | refine Ext.trans ?_ (by assumption))) hb2)).size h
  clear q1 q2 q3 hb1 hb2
  go_upto_region 3 with (first | (go_at_call 89; refine (HK3.out _).mono ?_; rintro e w4 ⟨rfl, hb4⟩) | (go_at_call 27; refine (HD3.out F3 La _ (C3.out.ext hb4)).mono ?_; rintro e w5 ⟨rfl, F5, q1, q2, q3⟩))
  rw [HLB.out] at q1
  have K5 : Hid (Keeps F w w5) := Lib.hid ((K3.out.ext hb4).trans q2 F3h.out)
  have C5 := Lib.hid q1
  have F5h : Hid (∀ x ∈ F5, x ∈ F ∨ w.heap.size ≤ x) := Lib.hid fun x hx => (q3 x hx).elim (F3h.out x) fun h => .inr (Nat.le_trans (K3.out.ext hb4).size h)
  clear q1 q2 q3 hb4 K3 C3 F3h
  go_upto_region 4 with (first | (go_at_call 89; refine (HK1.out _).mono ?_; rintro e w6 ⟨rfl, hb6⟩))
  go_upto_region 5 with (first | (go_at_call 29; refine (HG.out F5 _ (C5.out.ext (Ext.trans (by repeat (first | exact Ext.refl _ | assumption | refine Ext.alloc ?_ _ | refine Ext.drew ?_ | refine Ext.setCell ?_ (by first | (simp; done) | (dsimp only; omega)) _ | refine Ext.trans ?_ (by assumption))) hb6 |>.alloc _))).mono ?_; rintro e w7 ⟨rfl, hb7⟩))
  refine wp_gen ?_; intro W hW
  have EW : Ext w5 W := by rw [hW]; exact ((Ext.trans (by repeat (first | exact Ext.refl _ | assumption | refine Ext.alloc ?_ _ | refine Ext.drew ?_ | refine Ext.setCell ?_ (by first | (simp; done) | (dsimp only; omega)) _ | refine Ext.trans ?_ (by assumption))) hb6 |>.alloc _).trans hb7).alloc _
  have n7 : W.heap[w6.heap.size]? = some (.cells #[.int .i64 p, .int .i64 1, .int .u64 ta] 34 (0, 0)) := by rw [hW]; exact (alloc_other _ _ (by have := hb7.size; simp at this; omega)).trans ((hb7.block _ (by simp)).trans (alloc_same ..))
  have n8 : W.heap[w7.heap.size]? = some (.cells #[.int .u64 yf, .bool ya, .bool yb, .bool yc, .bool yd, .int .u8 ym] 38 (0, 0)) := by rw [hW]; exact alloc_same ..
  have hz : w5.heap.size ≤ w6.heap.size ∧ w6.heap.size < w7.heap.size := ⟨(Ext.trans (by repeat (first | exact Ext.refl _ | assumption | refine Ext.alloc ?_ _ | refine Ext.drew ?_ | refine Ext.setCell ?_ (by first | (simp; done) | (dsimp only; omega)) _ | refine Ext.trans ?_ (by assumption))) hb6).size, by have := hb7.size; simp at this; omega⟩
  have hl8 := heap_lt n8
  have hk0 := K5.out.size
  have KW := Lib.hid (K5.out.ext EW)
  have CW := Lib.hid (C5.out.ext EW)
  generalize w6.heap.size = b7 at n7 hz ⊢
  generalize w7.heap.size = b8 at n8 hz hl8 ⊢
  have x0 := (heap_cell n7 0).trans rfl
  have x1 := (heap_cell n7 1).trans rfl
  have x2 := (heap_cell n7 2).trans rfl
  have y0 := (heap_cell n8 0).trans rfl
  have y1 := (heap_cell n8 1).trans rfl
  have y2 := (heap_cell n8 2).trans rfl
  have y3 := (heap_cell n8 3).trans rfl
  have y4 := (heap_cell n8 4).trans rfl
  have y5 := (heap_cell n8 5).trans rfl
  have N7 := Lib.hid n7
  have N8 := Lib.hid n8
  clear hW hb6 hb7 EW n7 n8 K5 C5
  cases hy
  · go_wp2
    all_goals
      refine ⟨rfl, .tuple #[], (by simp [results, Try.results49, go_sem]), ?_⟩
      rw [← HEE.out]
      exact EndT.fin H.out (KW.out.ext (by repeat (first | exact Ext.refl _ | assumption | refine Ext.alloc ?_ _ | refine Ext.drew ?_ | refine Ext.setCell ?_ (by first | (simp; done) | (dsimp only; omega)) _ | refine Ext.trans ?_ (by assumption)))) (CW.out.ext (by repeat (first | exact Ext.refl _ | assumption | refine Ext.alloc ?_ _ | refine Ext.drew ?_ | refine Ext.setCell ?_ (by first | (simp; done) | (dsimp only; omega)) _ | refine Ext.trans ?_ (by assumption)))) F5h.out
  · go_upto_region 6 with (fail)
    refine region_ext_tail 4 (by kernel_rfl) (by kernel_rfl) ?_; simp only [List.take_succ_cons, List.take_zero, List.drop_succ_cons, List.drop_zero]; (repeat (go_big_quiet_step (first | (go_at_call 90; exact calls_wext (HPL.out _)) | (go_at_call 95; exact calls_wext (HO.out _))))); refine wpQuiet_nil ?_; intro w1 hb; have ⟨hc, hf, hh, hs⟩ := hb.facts; try simp only [World.size_alloc, World.size_setCell, World.size_drew] at hs
    have m7 := (hb.block _ (by omega)).trans N7.out
    have m8 := (hb.block _ hl8).trans N8.out
    have y0 := (heap_cell m8 0).trans rfl
    have y1 := (heap_cell m8 1).trans rfl
    have y2 := (heap_cell m8 2).trans rfl
    have y3 := (heap_cell m8 3).trans rfl
    have y4 := (heap_cell m8 4).trans rfl
    have y5 := (heap_cell m8 5).trans rfl
    have y6 := frozen_of m8
    have M7 := Lib.hid m7
    have M8 := Lib.hid m8
    have HB := Lib.hid hb
    clear hb hc hf hh hs m7 m8 x0 x1 x2
    go_upto_region 7 with (fail)
    refine wp_gen ?_; intro V hV
    have v7 : V.heap[b7]? = some (.cells #[.int .i64 p, .int .i64 1, .int .u64 ta] 34 (0, 0)) := by rw [hV]; exact (store6_other (by omega)).trans M7.out
    have v8 : V.heap[b8]? = some (.cells #[.int .u64 of, .bool oa, .bool ob, .bool oc, .bool od, .int .u8 om] 38 (0, 0)) := by rw [hV]; exact store6_heap M8.out
    have hlb := Nat.le_trans hk0 (Nat.le_trans hz.1 (Nat.le_of_lt hz.2))
    have kV : Keeps F w V := by
      rw [hV]
      exact ((((((KW.out.ext HB.out).setCell (.inr hlb) _).setCell (.inr hlb) _).setCell (.inr hlb) _).setCell (.inr hlb) _).setCell (.inr hlb) _).setCell (.inr hlb) _
    have cV : CAt V cb F5 Lb r := by
      rw [hV]
      have C9 := CW.out.ext HB.out
      have hap := C9.apart M8.out (by decide) (by decide)
      refine C9.keeps (G := [b8]) ?_ fun x hx => by simp only [List.mem_singleton]; rintro rfl; exact hap hx
      exact (((((((Keeps.refl _ _).setCell (.inl (by simp)) _).setCell (.inl (by simp)) _).setCell (.inl (by simp)) _).setCell (.inl (by simp)) _).setCell (.inl (by simp)) _).setCell (.inl (by simp)) _)
    have x0 := (heap_cell v7 0).trans rfl
    have x1 := (heap_cell v7 1).trans rfl
    have x2 := (heap_cell v7 2).trans rfl
    have z0 := (heap_cell v8 0).trans rfl
    have z1 := (heap_cell v8 1).trans rfl
    have z2 := (heap_cell v8 2).trans rfl
    have z3 := (heap_cell v8 3).trans rfl
    have z4 := (heap_cell v8 4).trans rfl
    have z5 := (heap_cell v8 5).trans rfl
    have KV := Lib.hid kV
    have CV := Lib.hid cV
    clear hV v7 v8 kV cV y0 y1 y2 y3 y4 y5 y6
    by_cases hom : om = 0
    · have hob : (om == 0) = true := by simpa using hom
      go_wp2_with (first | (go_at_call 27; refine (HDE.out F5 _ (CV.out.ext (by repeat (first | exact Ext.refl _ | assumption | refine Ext.alloc ?_ _ | refine Ext.drew ?_ | refine Ext.setCell ?_ (by first | (simp; done) | (dsimp only; omega)) _ | refine Ext.trans ?_ (by assumption))))).mono ?_; rintro e wz ⟨rfl, Fz, q1, q2, q3⟩))
      refine ⟨rfl, .tuple #[], (by simp [results, Try.results49, go_sem]), ?_⟩
      rw [← HEE.out, if_pos trivial, if_pos hom]
      exact EndT.fin H.out ((KV.out.ext (by repeat (first | exact Ext.refl _ | assumption | refine Ext.alloc ?_ _ | refine Ext.drew ?_ | refine Ext.setCell ?_ (by first | (simp; done) | (dsimp only; omega)) _ | refine Ext.trans ?_ (by assumption)))).trans q2 F5h.out) q1 fun x hx => (q3 x hx).elim (F5h.out x) fun h => .inr (Nat.le_trans KV.out.size h)
    · have hob : (om == 0) = false := by simpa using hom
      go_wp2_with (first | (go_at_call 36; refine (HPU.out F5 _ (CV.out.ext (by repeat (first | exact Ext.refl _ | assumption | refine Ext.alloc ?_ _ | refine Ext.drew ?_ | refine Ext.setCell ?_ (by first | (simp; done) | (dsimp only; omega)) _ | refine Ext.trans ?_ (by assumption))))).mono ?_; rintro e wz ⟨rfl, Fz, q1, q2, q3⟩))
      refine ⟨rfl, .tuple #[], (by simp [results, Try.results49, go_sem]), ?_⟩
      rw [← HEE.out, if_pos trivial, if_neg hom]
      exact EndT.fin H.out ((KV.out.ext (by repeat (first | exact Ext.refl _ | assumption | refine Ext.alloc ?_ _ | refine Ext.drew ?_ | refine Ext.setCell ?_ (by first | (simp; done) | (dsimp only; omega)) _ | refine Ext.trans ?_ (by assumption)))).trans q2 F5h.out) q1 fun x hx => (q3 x hx).elim (F5h.out x) fun h => .inr (Nat.le_trans KV.out.size h)
end Go.Proofs.Ytnacgmmkmedpdaa
