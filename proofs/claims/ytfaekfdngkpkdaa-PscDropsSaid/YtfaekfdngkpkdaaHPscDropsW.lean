/- PscDrops: dropped, a page has no table over it, of that PCID; nor has anything of a PCID that is dropped; others keep theirs: for all words and addresses. -/
import Derived.Test.YtfaekfdngkpkdaaHPscDrops
namespace Go.Proofs.Ytfaekfdngkpkdaa
set_option linter.unusedVariables false
set_option linter.unusedSimpArgs false
open Go.RowKit
attribute [local go_sem] wext_cell wext_frozen wext_heap alloc_cell alloc_frozen alloc_heap setCell_cell objCell_cells objFrozen_cells
attribute [local go_sem high] pl_eql

theorem mask_low {a : Int} (i : Nat) (hi : i < 64) (h0 : 0 ≤ a) (h1 : a ≤ 18446744073709551615) : bits BinOp.and IntKind.u64 a ((2 ^ i - 1 : Nat) : Int) = a % ((2 ^ i : Nat) : Int) := by
  have hp : 2 ^ i - 1 < 18446744073709551616 := by
    have : (2 : Nat) ^ i ≤ 2 ^ 63 := Nat.pow_le_pow_right (by omega) (by omega)
    omega
  have e : a = (a.toNat : Int) := (Int.toNat_of_nonneg h0).symm
  rw [e, u64_and_nat _ _ (by omega) hp, Nat.and_two_pow_sub_one_eq_mod]
  rfl
structure Two (w : World) (pb : Nat) (cb : Int → Nat) (F : Int → List Nat) (C : Int → Lines) (qb : Nat) (cq : Int → Nat) (G : Int → List Nat) (D : Int → Lines) (r : Nat) : Prop where
  p : PscAt w pb cb F C r
  q : PscAt w qb cq G D r
  sep : ∀ x ∈ allF F, x ∉ allF G
section
variable {w w' : World} {pb qb : Nat} {cb cq : Int → Nat} {F G : Int → List Nat} {C D C' D' : Int → Lines} {r : Nat}
theorem Two.ext (h : Two w pb cb F C qb cq G D r) (k : Ext w w') : Two w' pb cb F C qb cq G D r := ⟨h.p.ext k, h.q.ext k, h.sep⟩
theorem Two.left (h : Two w pb cb F C qb cq G D r) (e : ∃ F', PscAt w' pb cb F' C' r ∧ Keeps (allF F) w w' ∧ ∀ x ∈ allF F', x ∈ allF F ∨ w.heap.size ≤ x) : ∃ F', Two w' pb cb F' C' qb cq G D r ∧ Keeps (allF F) w w' ∧ ∀ x ∈ allF F', x ∈ allF F ∨ w.heap.size ≤ x := by
  obtain ⟨F', m, k, f⟩ := e
  refine ⟨F', ⟨m, h.q.keeps k (fun x hx hm => h.sep x hm hx) (h.p.out h.q.head (by decide) (by decide)), fun x hx hq => ?_⟩, k, f⟩
  rcases f x hx with z | z
  · exact h.sep x z hq
  · have := h.q.lt x hq; omega
theorem Two.right (h : Two w pb cb F C qb cq G D r) (e : ∃ G', PscAt w' qb cq G' D' r ∧ Keeps (allF G) w w' ∧ ∀ x ∈ allF G', x ∈ allF G ∨ w.heap.size ≤ x) : ∃ G', Two w' pb cb F C qb cq G' D' r ∧ Keeps (allF G) w w' ∧ ∀ x ∈ allF G', x ∈ allF G ∨ w.heap.size ≤ x := by
  obtain ⟨G', m, k, f⟩ := e
  refine ⟨G', ⟨h.p.keeps k (fun x hx hm => h.sep x hx hm) (h.q.out h.p.head (by decide) (by decide)), m, fun x hx hq => ?_⟩, k, f⟩
  rcases f x hq with z | z
  · exact h.sep x hx z
  · have := h.p.lt x hx; omega
end
def plCells (d : Option (Int × Line)) : Array Value := #[.int .i64 (placeF d).1, .int .u64 (placeF d).2.1, .bool (placeF d).2.2.1, .bool (placeF d).2.2.2.1, .bool (placeF d).2.2.2.2]

set_option maxHeartbeats 4000000 in
set_option maxRecDepth 100000 in
theorem pscDrops_c (v : Value) (ds : List PutD) (v2 : Value) (ns : List Int) (n n2 : Int) (w : World) (h : ListAt w v 4 PutD.cells PutD.ok ds) (hv : ListAt w v2 1 U32.cells U32.ok ns) (hn0 : 0 ≤ n) (hn1 : n ≤ 4294967295) (hm0 : 0 ≤ n2) (hm1 : n2 ≤ 4294967295) :
    Calls Try.prog 7 #[v, v2, .agg #[.int .u32 n, .int .u32 n2]] w fun e w' => e = .returned (.bool true) ∧ Ext w w' := by
  have HL := Lib.hid h
  have HV := Lib.hid hv
  have HNa := Lib.hid (fun w => near_c n w hn0 hn1)
  have HNb := Lib.hid (fun w => near_c n2 w hm0 hm1)
  have ⟨na0, na1⟩ := nearI_le hn0
  have ⟨nb0, nb1⟩ := nearI_le hm0
  obtain ⟨a1, c1, rfl, -, -, -, -⟩ := h
  obtain ⟨va, vc, rfl, -, hmx, hok, -⟩ := hv
  unfold maxLen at hmx
  generalize nearI n = na at *
  generalize nearI n2 = nb at *
  have HK := Lib.hid hok
  clear hok
  go_enter Try.func7, Try.ntmps7
  go_upto_region 2 with (first | (go_at_call 23; refine (awake11_c _).mono ?_; rintro e w0 ⟨rfl, hb0⟩))
  have hB0 := (hb0.block w.heap.size (by simp)).trans (alloc_same ..)
  have e0 : Ext w w0 := ((Ext.refl w).alloc _).trans hb0
  have E0 := Lib.hid e0
  have X0 := Lib.hid hB0
  obtain ⟨xb, hxb⟩ : ∃ xb, w.heap.size = xb := ⟨_, rfl⟩
  rw [hxb] at X0 ⊢
  clear hb0 hB0 e0 hxb
  go_upto_region 5 with (first | (go_at_call 24; refine (built11_c _ ds _ (HL.out.ext (E0.out.trans (by repeat (first | exact Ext.refl _ | assumption | refine Ext.alloc ?_ _ | refine Ext.drew ?_ | refine Ext.setCell ?_ (by first | (simp; done) | (dsimp only; omega)) _ | refine Ext.trans ?_ (by assumption)))))).mono ?_; rintro e w1 ⟨mb, Fm, rfl, hC, hE, hF, hmb⟩))
  have C1 := Lib.hid hC
  have E1 : Hid (Ext w w1) := Lib.hid (E0.out.trans hE)
  have X1 := Lib.hid ((hE.block _ (heap_lt X0.out)).trans X0.out)
  have hF1 : ∀ x ∈ Fm, w.heap.size ≤ x := fun x hx => Nat.le_trans E0.out.size (hF x hx)
  have F1 := Lib.hid hF1
  clear hC hE hF hF1 hmb
  go_upto_region 6 with (first | (go_at_call 25; refine (warm_c mb Fm (builtM (ds.take 100)) [] 8 _ ns w _ E1.out C1.out F1.out HV.out (by simp) (by omega) (by omega)).mono ?_; rintro e w2 ⟨pb, cb, F, Fm2, T2, rfl, hB, hK, hf1, hf2, hp, hT⟩))
  have hM := C1.out.wide
  obtain ⟨r, hr⟩ : ∃ r, clampR 8 = r := ⟨_, rfl⟩
  rw [hr] at hB
  obtain ⟨C, hCd⟩ : ∃ C, warmP (builtM (ds.take 100)) r ns (min ns.length 20) = C := ⟨_, rfl⟩
  have hinv : InvC (builtM (ds.take 100)) C := by rw [← hCd]; exact warm_inv hM _
  rw [hCd] at hB
  have E2 : Hid (Ext w w2) := Lib.hid (Keeps.to_ext E1.out hK F1.out)
  have F2 : Hid (∀ x ∈ Fm2, w.heap.size ≤ x) := Lib.hid fun x hx => by
    rcases hf1 x hx with z | z
    · exact F1.out x z
    · have := E1.out.size; omega
  have X2 := Lib.hid ((hK.block _ (heap_lt X1.out) (fun hm => C1.out.apart X1.out (by decide) (by decide) (by decide) hm)).trans X1.out)
  have B2 := Lib.hid hB
  have N2 : Hid (∀ x ∈ allF F, w.heap.size ≤ x) := Lib.hid fun x hx => Nat.le_trans E1.out.size (hf2 x hx)
  have hT2 : T2.length ≤ 80 := by simpa using hT
  clear hB hK hf1 hf2 hp hT
  go_upto_region 7 with (first | (go_at_call 25; refine (warm_c mb Fm2 (builtM (ds.take 100)) T2 8 _ ns w _ E2.out B2.out.mem F2.out HV.out (by omega) (by omega) (by omega)).mono ?_; rintro e w3 ⟨qb, cq, G, Fm3, T3, rfl, hB, hK, hf1, hf2, hp, hT⟩))
  rw [hr, hCd] at hB
  have E3 : Hid (Ext w w3) := Lib.hid (Keeps.to_ext E2.out hK F2.out)
  have X3 := Lib.hid ((hK.block _ (heap_lt X2.out) (fun hm => B2.out.mem.apart X2.out (by decide) (by decide) (by decide) hm)).trans X2.out)
  have hP3 := B2.out.psc.keeps hK (fun x hx hm => B2.out.sep x hm hx) (B2.out.mem.apart B2.out.psc.head (by decide) (by decide) (by decide))
  have T3' : Hid (Two w3 pb cb F C qb cq G C r) := Lib.hid ⟨hP3, hB.psc, fun x hx hg => by have := hf2 x hg; have := B2.out.psc.lt x hx; omega⟩
  have NG : Hid (∀ x ∈ allF G, w.heap.size ≤ x) := Lib.hid fun x hx => Nat.le_trans E2.out.size (hf2 x hx)
  have NF := N2
  have hnd : NodupC C := fun l l0 l1 => hP3.nodup l0 l1
  have HDa := Lib.hid (drop_none (p := 1) (a := na) hnd)
  have hnd1 := nodup_drop (p := 1) (a := na) hnd
  have HAp := Lib.hid (fun (hh : na / 549755813888 % 512 ≠ nb / 549755813888 % 512) => drop_other (p := 1) (a := na) (p' := 1) (b := nb) hnd fun l l0 l1 he => hh (tag_top l0 l1 (congrArg Key.t he)).symm)
  have HD2 := Lib.hid (drop_other (p := 2) (a := nb) (p' := 1) (b := nb) hnd1 fun l l0 l1 he => by have := congrArg Key.p he; simp [kP] at this)
  have HO2 := Lib.hid (of_other2 hnd hinv)
  have HO1 := Lib.hid (of_one hnd hinv)
  obtain ⟨d0, hd0⟩ : ∃ d, deepF C 1 nb = d := ⟨_, rfl⟩
  obtain ⟨d1, hd1⟩ : ∃ d, deepF (dropP 1 na C) 1 nb = d := ⟨_, rfl⟩
  rw [hd0, hd1] at HAp
  rw [hd1] at HD2
  have Hd0 := Lib.hid hd0
  have Hd1 := Lib.hid hd1
  clear hM hCd hinv hB hK hf1 hf2 hp hT hP3 hnd hnd1 hr hd0 hd1
  have x0 := (heap_cell X3.out 0).trans rfl
  have x1 := (heap_cell X3.out 1).trans rfl
  have xl := heap_lt X3.out
  go_upto_region 8 with (first | (go_at_call 26; refine (HNa.out _).mono ?_; rintro e w4 ⟨rfl, hb4⟩))
  have E4 := Lib.hid (E3.out.trans (Ext.trans (by repeat (first | exact Ext.refl _ | assumption | refine Ext.alloc ?_ _ | refine Ext.drew ?_ | refine Ext.setCell ?_ (by first | (simp; done) | (dsimp only; omega)) _ | refine Ext.trans ?_ (by assumption))) hb4))
  have T4 := Lib.hid (T3'.out.ext (Ext.trans (by repeat (first | exact Ext.refl _ | assumption | refine Ext.alloc ?_ _ | refine Ext.drew ?_ | refine Ext.setCell ?_ (by first | (simp; done) | (dsimp only; omega)) _ | refine Ext.trans ?_ (by assumption))) hb4))
  have X4 := Lib.hid ((Ext.block (Ext.trans (by repeat (first | exact Ext.refl _ | assumption | refine Ext.alloc ?_ _ | refine Ext.drew ?_ | refine Ext.setCell ?_ (by first | (simp; done) | (dsimp only; omega)) _ | refine Ext.trans ?_ (by assumption))) hb4) _ xl).trans X3.out)
  clear hb4 x0 x1 xl
  have x0 := (heap_cell X4.out 0).trans rfl
  have x1 := (heap_cell X4.out 1).trans rfl
  have xl := heap_lt X4.out
  go_upto_region 9 with (first | (go_at_call 26; refine (HNb.out _).mono ?_; rintro e w5 ⟨rfl, hb5⟩))
  have E5 := Lib.hid (E4.out.trans (Ext.trans (by repeat (first | exact Ext.refl _ | assumption | refine Ext.alloc ?_ _ | refine Ext.drew ?_ | refine Ext.setCell ?_ (by first | (simp; done) | (dsimp only; omega)) _ | refine Ext.trans ?_ (by assumption))) hb5))
  have T5 := Lib.hid (T4.out.ext (Ext.trans (by repeat (first | exact Ext.refl _ | assumption | refine Ext.alloc ?_ _ | refine Ext.drew ?_ | refine Ext.setCell ?_ (by first | (simp; done) | (dsimp only; omega)) _ | refine Ext.trans ?_ (by assumption))) hb5))
  clear hb5 x0 x1 xl
  have HD6 := Lib.hid (fun w h => deepest_c pb cb F C r 1 nb w h (by omega) (by omega))
  rw [Hd0.out] at HD6
  go_upto_region 10 with (first | (go_at_call 27; refine (HD6.out _ (T5.out.p.ext (by repeat (first | exact Ext.refl _ | assumption | refine Ext.alloc ?_ _ | refine Ext.drew ?_ | refine Ext.setCell ?_ (by first | (simp; done) | (dsimp only; omega)) _ | refine Ext.trans ?_ (by assumption))))).mono ?_; rintro e x6 ⟨rfl, hx6⟩))
  refine wp_gen ?_; intro w6 hW
  have hE : Ext w5 w6 := by rw [hW]; exact (Ext.trans (by repeat (first | exact Ext.refl _ | assumption | refine Ext.alloc ?_ _ | refine Ext.drew ?_ | refine Ext.setCell ?_ (by first | (simp; done) | (dsimp only; omega)) _ | refine Ext.trans ?_ (by assumption))) hx6).alloc _
  have hB : w6.heap[x6.heap.size]? = some (.cells (plCells d0) 41 (0, 0)) := by rw [hW]; exact alloc_same ..
  obtain ⟨b6, hbk⟩ : ∃ b, x6.heap.size = b := ⟨_, rfl⟩
  rw [hbk] at hB ⊢
  have E6 := Lib.hid (E5.out.trans hE)
  have T6 := Lib.hid (T5.out.ext hE)
  have Bwas_6 := Lib.hid hB
  clear hW hE hB hbk hx6
  have HA7 := Lib.hid (fun w h => pscDropPage_c pb cb F C r 1 na w h (by omega) (by omega))
  go_upto_region 11 with (first | (go_at_call 33; refine (HA7.out _ (T6.out.p.ext (by repeat (first | exact Ext.refl _ | assumption | refine Ext.alloc ?_ _ | refine Ext.drew ?_ | refine Ext.setCell ?_ (by first | (simp; done) | (dsimp only; omega)) _ | refine Ext.trans ?_ (by assumption))))).mono ?_; rintro e w7 ⟨rfl, hE⟩))
  have hLft := (T6.out.ext (Ext.refl _)).left hE
  obtain ⟨F7, hT, hK, hf⟩ := hLft
  have E7 := Lib.hid (Keeps.to_ext E6.out hK NF.out)
  have N7 : Hid (∀ x ∈ allF F7, w.heap.size ≤ x) := Lib.hid fun x hx => (hf x hx).elim (NF.out x) fun z => Nat.le_trans E6.out.size z
  have Bwas_7 := Lib.hid ((hK.block _ (heap_lt Bwas_6.out) (T6.out.p.out Bwas_6.out (by decide) (by decide))).trans Bwas_6.out)
  have T7 := Lib.hid hT
  clear hE hT hK hf
  have HD8 := Lib.hid (fun w h => deepest_c pb cb F7 (dropP 1 na C) r 1 na w h (by omega) (by omega))
  rw [HDa.out] at HD8
  go_upto_region 12 with (first | (go_at_call 27; refine (HD8.out _ (T7.out.p.ext (by repeat (first | exact Ext.refl _ | assumption | refine Ext.alloc ?_ _ | refine Ext.drew ?_ | refine Ext.setCell ?_ (by first | (simp; done) | (dsimp only; omega)) _ | refine Ext.trans ?_ (by assumption))))).mono ?_; rintro e x8 ⟨rfl, hx8⟩))
  refine wp_gen ?_; intro w8 hW
  have hE : Ext w7 w8 := by rw [hW]; exact (Ext.trans (by repeat (first | exact Ext.refl _ | assumption | refine Ext.alloc ?_ _ | refine Ext.drew ?_ | refine Ext.setCell ?_ (by first | (simp; done) | (dsimp only; omega)) _ | refine Ext.trans ?_ (by assumption))) hx8).alloc _
  have hB : w8.heap[x8.heap.size]? = some (.cells (plCells none) 41 (0, 0)) := by rw [hW]; exact alloc_same ..
  obtain ⟨b8, hbk⟩ : ∃ b, x8.heap.size = b := ⟨_, rfl⟩
  rw [hbk] at hB ⊢
  have E8 := Lib.hid (E7.out.trans hE)
  have T8 := Lib.hid (T7.out.ext hE)
  have Bwas_8 := Lib.hid ((hE.block _ (heap_lt Bwas_7.out)).trans Bwas_7.out)
  have Bstill_8 := Lib.hid hB
  clear hW hE hB hbk hx8
  have HD9 := Lib.hid (fun w h => deepest_c pb cb F7 (dropP 1 na C) r 1 nb w h (by omega) (by omega))
  rw [Hd1.out] at HD9
  go_upto_region 13 with (first | (go_at_call 27; refine (HD9.out _ (T8.out.p.ext (by repeat (first | exact Ext.refl _ | assumption | refine Ext.alloc ?_ _ | refine Ext.drew ?_ | refine Ext.setCell ?_ (by first | (simp; done) | (dsimp only; omega)) _ | refine Ext.trans ?_ (by assumption))))).mono ?_; rintro e x9 ⟨rfl, hx9⟩))
  refine wp_gen ?_; intro w9 hW
  have hE : Ext w8 w9 := by rw [hW]; exact (Ext.trans (by repeat (first | exact Ext.refl _ | assumption | refine Ext.alloc ?_ _ | refine Ext.drew ?_ | refine Ext.setCell ?_ (by first | (simp; done) | (dsimp only; omega)) _ | refine Ext.trans ?_ (by assumption))) hx9).alloc _
  have hB : w9.heap[x9.heap.size]? = some (.cells (plCells d1) 41 (0, 0)) := by rw [hW]; exact alloc_same ..
  obtain ⟨b9, hbk⟩ : ∃ b, x9.heap.size = b := ⟨_, rfl⟩
  rw [hbk] at hB ⊢
  have E9 := Lib.hid (E8.out.trans hE)
  have T9 := Lib.hid (T8.out.ext hE)
  have Bwas_9 := Lib.hid ((hE.block _ (heap_lt Bwas_8.out)).trans Bwas_8.out)
  have Bstill_9 := Lib.hid ((hE.block _ (heap_lt Bstill_8.out)).trans Bstill_8.out)
  have Bnow_9 := Lib.hid hB
  clear hW hE hB hbk hx9
  have HA10 := Lib.hid (fun w h => pscDropPage_c pb cb F7 (dropP 1 na C) r 2 nb w h (by omega) (by omega))
  go_upto_region 14 with (first | (go_at_call 33; refine (HA10.out _ (T9.out.p.ext (by repeat (first | exact Ext.refl _ | assumption | refine Ext.alloc ?_ _ | refine Ext.drew ?_ | refine Ext.setCell ?_ (by first | (simp; done) | (dsimp only; omega)) _ | refine Ext.trans ?_ (by assumption))))).mono ?_; rintro e w10 ⟨rfl, hE⟩))
  have hLft := (T9.out.ext (Ext.refl _)).left hE
  obtain ⟨F10, hT, hK, hf⟩ := hLft
  have E10 := Lib.hid (Keeps.to_ext E9.out hK N7.out)
  have N10 : Hid (∀ x ∈ allF F10, w.heap.size ≤ x) := Lib.hid fun x hx => (hf x hx).elim (N7.out x) fun z => Nat.le_trans E9.out.size z
  have Bwas_10 := Lib.hid ((hK.block _ (heap_lt Bwas_9.out) (T9.out.p.out Bwas_9.out (by decide) (by decide))).trans Bwas_9.out)
  have Bstill_10 := Lib.hid ((hK.block _ (heap_lt Bstill_9.out) (T9.out.p.out Bstill_9.out (by decide) (by decide))).trans Bstill_9.out)
  have Bnow_10 := Lib.hid ((hK.block _ (heap_lt Bnow_9.out) (T9.out.p.out Bnow_9.out (by decide) (by decide))).trans Bnow_9.out)
  have T10 := Lib.hid hT
  clear hE hT hK hf
  have HD11 := Lib.hid (fun w h => deepest_c pb cb F10 (dropP 2 nb (dropP 1 na C)) r 1 nb w h (by omega) (by omega))
  rw [HD2.out] at HD11
  go_upto_region 15 with (first | (go_at_call 27; refine (HD11.out _ (T10.out.p.ext (by repeat (first | exact Ext.refl _ | assumption | refine Ext.alloc ?_ _ | refine Ext.drew ?_ | refine Ext.setCell ?_ (by first | (simp; done) | (dsimp only; omega)) _ | refine Ext.trans ?_ (by assumption))))).mono ?_; rintro e x11 ⟨rfl, hx11⟩))
  refine wp_gen ?_; intro w11 hW
  have hE : Ext w10 w11 := by rw [hW]; exact (Ext.trans (by repeat (first | exact Ext.refl _ | assumption | refine Ext.alloc ?_ _ | refine Ext.drew ?_ | refine Ext.setCell ?_ (by first | (simp; done) | (dsimp only; omega)) _ | refine Ext.trans ?_ (by assumption))) hx11).alloc _
  have hB : w11.heap[x11.heap.size]? = some (.cells (plCells d1) 41 (0, 0)) := by rw [hW]; exact alloc_same ..
  obtain ⟨b11, hbk⟩ : ∃ b, x11.heap.size = b := ⟨_, rfl⟩
  rw [hbk] at hB ⊢
  have E11 := Lib.hid (E10.out.trans hE)
  have T11 := Lib.hid (T10.out.ext hE)
  have Bwas_11 := Lib.hid ((hE.block _ (heap_lt Bwas_10.out)).trans Bwas_10.out)
  have Bstill_11 := Lib.hid ((hE.block _ (heap_lt Bstill_10.out)).trans Bstill_10.out)
  have Bnow_11 := Lib.hid ((hE.block _ (heap_lt Bnow_10.out)).trans Bnow_10.out)
  have Bsame_11 := Lib.hid hB
  clear hW hE hB hbk hx11
  have HA12 := Lib.hid (fun w h => pscDropOf_c qb cq G C r 2 w h)
  go_upto_region 16 with (first | (go_at_call 34; refine (HA12.out _ (T11.out.q.ext (by repeat (first | exact Ext.refl _ | assumption | refine Ext.alloc ?_ _ | refine Ext.drew ?_ | refine Ext.setCell ?_ (by first | (simp; done) | (dsimp only; omega)) _ | refine Ext.trans ?_ (by assumption))))).mono ?_; rintro e w12 ⟨rfl, hE⟩))
  have hLft := (T11.out.ext (Ext.refl _)).right hE
  obtain ⟨G12, hT, hK, hf⟩ := hLft
  have E12 := Lib.hid (Keeps.to_ext E11.out hK NG.out)
  have N12 : Hid (∀ x ∈ allF G12, w.heap.size ≤ x) := Lib.hid fun x hx => (hf x hx).elim (NG.out x) fun z => Nat.le_trans E11.out.size z
  have Bwas_12 := Lib.hid ((hK.block _ (heap_lt Bwas_11.out) (T11.out.q.out Bwas_11.out (by decide) (by decide))).trans Bwas_11.out)
  have Bstill_12 := Lib.hid ((hK.block _ (heap_lt Bstill_11.out) (T11.out.q.out Bstill_11.out (by decide) (by decide))).trans Bstill_11.out)
  have Bnow_12 := Lib.hid ((hK.block _ (heap_lt Bnow_11.out) (T11.out.q.out Bnow_11.out (by decide) (by decide))).trans Bnow_11.out)
  have Bsame_12 := Lib.hid ((hK.block _ (heap_lt Bsame_11.out) (T11.out.q.out Bsame_11.out (by decide) (by decide))).trans Bsame_11.out)
  have T12 := Lib.hid hT
  clear hE hT hK hf
  have TC : Hid (Two w12 pb cb F10 (dropP 2 nb (dropP 1 na C)) qb cq G12 C r) := Lib.hid ⟨T12.out.p, T12.out.q.congr HO2.out, T12.out.sep⟩
  have HD13 := Lib.hid (fun w h => deepest_c qb cq G12 C r 1 nb w h (by omega) (by omega))
  rw [Hd0.out] at HD13
  go_upto_region 17 with (first | (go_at_call 27; refine (HD13.out _ (TC.out.q.ext (by repeat (first | exact Ext.refl _ | assumption | refine Ext.alloc ?_ _ | refine Ext.drew ?_ | refine Ext.setCell ?_ (by first | (simp; done) | (dsimp only; omega)) _ | refine Ext.trans ?_ (by assumption))))).mono ?_; rintro e x13 ⟨rfl, hx13⟩))
  refine wp_gen ?_; intro w13 hW
  have hE : Ext w12 w13 := by rw [hW]; exact (Ext.trans (by repeat (first | exact Ext.refl _ | assumption | refine Ext.alloc ?_ _ | refine Ext.drew ?_ | refine Ext.setCell ?_ (by first | (simp; done) | (dsimp only; omega)) _ | refine Ext.trans ?_ (by assumption))) hx13).alloc _
  have hB : w13.heap[x13.heap.size]? = some (.cells (plCells d0) 41 (0, 0)) := by rw [hW]; exact alloc_same ..
  obtain ⟨b13, hbk⟩ : ∃ b, x13.heap.size = b := ⟨_, rfl⟩
  rw [hbk] at hB ⊢
  have E13 := Lib.hid (E12.out.trans hE)
  have T13 := Lib.hid (TC.out.ext hE)
  have Bwas_13 := Lib.hid ((hE.block _ (heap_lt Bwas_12.out)).trans Bwas_12.out)
  have Bstill_13 := Lib.hid ((hE.block _ (heap_lt Bstill_12.out)).trans Bstill_12.out)
  have Bnow_13 := Lib.hid ((hE.block _ (heap_lt Bnow_12.out)).trans Bnow_12.out)
  have Bsame_13 := Lib.hid ((hE.block _ (heap_lt Bsame_12.out)).trans Bsame_12.out)
  have Bkept_13 := Lib.hid hB
  clear hW hE hB hbk hx13
  have HA14 := Lib.hid (fun w h => pscDropOf_c qb cq G12 C r 1 w h)
  go_upto_region 18 with (first | (go_at_call 34; refine (HA14.out _ (T13.out.q.ext (by repeat (first | exact Ext.refl _ | assumption | refine Ext.alloc ?_ _ | refine Ext.drew ?_ | refine Ext.setCell ?_ (by first | (simp; done) | (dsimp only; omega)) _ | refine Ext.trans ?_ (by assumption))))).mono ?_; rintro e w14 ⟨rfl, hE⟩))
  have hLft := (T13.out.ext (Ext.refl _)).right hE
  obtain ⟨G14, hT, hK, hf⟩ := hLft
  have E14 := Lib.hid (Keeps.to_ext E13.out hK N12.out)
  have N14 : Hid (∀ x ∈ allF G14, w.heap.size ≤ x) := Lib.hid fun x hx => (hf x hx).elim (N12.out x) fun z => Nat.le_trans E13.out.size z
  have Bwas_14 := Lib.hid ((hK.block _ (heap_lt Bwas_13.out) (T13.out.q.out Bwas_13.out (by decide) (by decide))).trans Bwas_13.out)
  have Bstill_14 := Lib.hid ((hK.block _ (heap_lt Bstill_13.out) (T13.out.q.out Bstill_13.out (by decide) (by decide))).trans Bstill_13.out)
  have Bnow_14 := Lib.hid ((hK.block _ (heap_lt Bnow_13.out) (T13.out.q.out Bnow_13.out (by decide) (by decide))).trans Bnow_13.out)
  have Bsame_14 := Lib.hid ((hK.block _ (heap_lt Bsame_13.out) (T13.out.q.out Bsame_13.out (by decide) (by decide))).trans Bsame_13.out)
  have Bkept_14 := Lib.hid ((hK.block _ (heap_lt Bkept_13.out) (T13.out.q.out Bkept_13.out (by decide) (by decide))).trans Bkept_13.out)
  have T14 := Lib.hid hT
  clear hE hT hK hf
  have hq0 : PscAt w14 qb cq G14 (fun _ => []) r := T14.out.q.congr HO1.out
  have Q0 := Lib.hid hq0
  have HLn := Lib.hid (fun l (hl : l = 2 ∨ l = 3 ∨ l = 4) w h => pscLen_c qb cq G14 (fun _ => []) r l w h hl)
  have hA1 : bits BinOp.and IntKind.u64 (na / 549755813888) 511 = na / 549755813888 % 512 := mask_low (a := na / 549755813888) 9 (by omega) (by omega) (by omega)
  have hA2 : bits BinOp.and IntKind.u64 (nb / 549755813888) 511 = nb / 549755813888 % 512 := mask_low (a := nb / 549755813888) 9 (by omega) (by omega) (by omega)
  have was0 := (heap_cell Bwas_14.out 0).trans rfl
  have was1 := (heap_cell Bwas_14.out 1).trans rfl
  have was2 := (heap_cell Bwas_14.out 2).trans rfl
  have was3 := (heap_cell Bwas_14.out 3).trans rfl
  have was4 := (heap_cell Bwas_14.out 4).trans rfl
  have wasl := heap_lt Bwas_14.out
  have now0 := (heap_cell Bnow_14.out 0).trans rfl
  have now1 := (heap_cell Bnow_14.out 1).trans rfl
  have now2 := (heap_cell Bnow_14.out 2).trans rfl
  have now3 := (heap_cell Bnow_14.out 3).trans rfl
  have now4 := (heap_cell Bnow_14.out 4).trans rfl
  have nowl := heap_lt Bnow_14.out
  have same0 := (heap_cell Bsame_14.out 0).trans rfl
  have same1 := (heap_cell Bsame_14.out 1).trans rfl
  have same2 := (heap_cell Bsame_14.out 2).trans rfl
  have same3 := (heap_cell Bsame_14.out 3).trans rfl
  have same4 := (heap_cell Bsame_14.out 4).trans rfl
  have samel := heap_lt Bsame_14.out
  have kept0 := (heap_cell Bkept_14.out 0).trans rfl
  have kept1 := (heap_cell Bkept_14.out 1).trans rfl
  have kept2 := (heap_cell Bkept_14.out 2).trans rfl
  have kept3 := (heap_cell Bkept_14.out 3).trans rfl
  have kept4 := (heap_cell Bkept_14.out 4).trans rfl
  have keptl := heap_lt Bkept_14.out
  unfold plCells at was0 was1 was2 was3 was4 now0 now1 now2 now3 now4 same0 same1 same2 same3 same4 kept0 kept1 kept2 kept3 kept4
  have hp0 := plB_self (placeF d0)
  have hp1 := plB_self (placeF d1)
  clear hq0
  by_cases hap : na / 549755813888 % 512 = nb / 549755813888 % 512
  · have hapb : (na / 549755813888 % 512 != nb / 549755813888 % 512) = false := by simpa using hap
    clear hap
    generalize placeF d0 = z0 at *
    generalize placeF d1 = z1 at *
    obtain ⟨za, zb, zc, zd, ze⟩ := z0
    obtain ⟨ya, yb, yc, yd, ye⟩ := z1
    dsimp only at hp0 hp1 was0 was1 was2 was3 was4 now0 now1 now2 now3 now4 same0 same1 same2 same3 same4 kept0 kept1 kept2 kept3 kept4
    go_wp2_with (first | (go_at_call 31; refine (HLn.out _ (by omega) _ (Q0.out.ext (by repeat (first | exact Ext.refl _ | assumption | refine Ext.alloc ?_ _ | refine Ext.drew ?_ | refine Ext.setCell ?_ (by first | (simp; done) | (dsimp only; omega)) _ | refine Ext.trans ?_ (by assumption))))).mono ?_; rintro e xx ⟨rfl, hxx⟩))
    go_ret
    exact ⟨rfl, E14.out.trans (by repeat (first | exact Ext.refl _ | assumption | refine Ext.alloc ?_ _ | refine Ext.drew ?_ | refine Ext.setCell ?_ (by first | (simp; done) | (dsimp only; omega)) _ | refine Ext.trans ?_ (by assumption)))⟩
  · have hapb : (na / 549755813888 % 512 != nb / 549755813888 % 512) = true := by simpa using hap
    have hd := HAp.out hap
    subst hd
    clear hap
    generalize placeF d1 = z1 at *
    obtain ⟨ya, yb, yc, yd, ye⟩ := z1
    dsimp only at hp0 hp1 was0 was1 was2 was3 was4 now0 now1 now2 now3 now4 same0 same1 same2 same3 same4 kept0 kept1 kept2 kept3 kept4
    go_wp2_with (first | (go_at_call 31; refine (HLn.out _ (by omega) _ (Q0.out.ext (by repeat (first | exact Ext.refl _ | assumption | refine Ext.alloc ?_ _ | refine Ext.drew ?_ | refine Ext.setCell ?_ (by first | (simp; done) | (dsimp only; omega)) _ | refine Ext.trans ?_ (by assumption))))).mono ?_; rintro e xx ⟨rfl, hxx⟩))
    go_ret
    exact ⟨rfl, E14.out.trans (by repeat (first | exact Ext.refl _ | assumption | refine Ext.alloc ?_ _ | refine Ext.drew ?_ | refine Ext.setCell ?_ (by first | (simp; done) | (dsimp only; omega)) _ | refine Ext.trans ?_ (by assumption)))⟩
end Go.Proofs.Ytfaekfdngkpkdaa
