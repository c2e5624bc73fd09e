/- Joined texts, part 46 of what the law stands on: each as its own head says. -/
import Derived.Test.YtkfonacokamfiaaGreatPlb38
import Derived.Test.YtkfonacokamfiaaGreatPlb44
import Derived.Test.YtkfonacokamfiaaGreatPlb36
import Derived.Test.YtkfonacokamfiaaGreatPlb45
import Derived.Test.YtkfonacokamfiaaGreatPlb23
import Derived.Test.YtkfonacokamfiaaGreatPlb8
/- The document's Path: which slots looking for a page would mark. Own text. -/
namespace Go.Proofs.YtkfonacokamfiaaGreat
set_option linter.unusedVariables false
set_option linter.unusedSimpArgs false
open Go.RowKit
attribute [local go_sem] wext_cell wext_frozen wext_heap alloc_cell alloc_frozen alloc_heap setCell_cell objCell_cells objFrozen_cells

set_option maxHeartbeats 4000000 in
set_option maxRecDepth 100000 in
theorem rPath_c (sa : Option Addr) (sc : Nat) (S : List (Int × Int)) (M : Int → Int) (root kd a : Int) (us ac wp nxe sp sm : Bool) (w : World) (hS : SAt w sa sc S) (hok : RefOk 16 S M) (hl : S.length ≤ 1000000) (hr0 : 0 ≤ root) (hr1 : root ≤ 18446744073709551615) (ha0 : 0 ≤ a) (ha1 : a ≤ 18446744073709551615) :
    Calls Tryz.prog 12 #[.agg #[.int .i64 16, .slice sa S.length sc, .slice none 0 0], .agg #[.int .u64 root, .int .i64 kd, .bool us, .bool ac, .bool wp, .bool nxe, .bool sp, .bool sm], .int .u64 a] w (EndPath (pathF M root nxe a) w) := by
  have HS := Lib.hid hS
  have HT := Lib.hid (fun w => refTop_c root w hr0 hr1)
  have HCn := Lib.hid (fun w1 => refCanon_c a w1 ha0 ha1)
  have ht := tabI_le hr0
  have ht1 : tabI root ≤ 18446744073709551615 := by have := (tabI_le hr0).2; omega
  have hFr : ∀ (w1 : World), SAt w1 sa sc S → Calls Tryz.prog 29 #[.agg #[.int .i64 16, .slice sa S.length sc, .slice none 0 0], .agg #[.int .i64 4, .int .u64 (tabI root), .bool true, .bool true, .bool true], .int .u64 a, .bool nxe] w1 (EndFrom none 16 sa S.length sc [] (walkF M 16 nxe a 4 (tabI root) allRt) w1) :=
    fun w1 h1 => rFrom_c 16 (by omega) sa none S M [] sc 0 4 (tabI root) a true true true nxe w1 h1 (Owns.nil _ _ _) hok hl (by simp) (by omega) ht.1 ht1 ha0 ha1
  generalize hE : pathF M root nxe a = E
  unfold pathF at hE
  have hql : (walkF M 16 nxe a 4 (tabI root) allRt).1.length ≤ 4 := walk_len 4 _ allRt
  generalize walkF M 16 nxe a 4 (tabI root) allRt = q at hFr hE hql
  generalize tabI root = tr at hFr HT ht ht1
  generalize canonB a = cn at hE HCn
  obtain ⟨L, why, ⟨b0, b1, b2⟩, lv, fr⟩ := q
  dsimp only at hE hql
  have HE := Lib.hid hE
  have HFr := Lib.hid hFr
  unfold EndFrom at HFr
  dsimp only at HFr
  clear hE hFr hok hS
  generalize S.length = n at *
  go_enter Tryz.func12, Tryz.ntmps12
  go_upto_region 1 with (fail)
  refine wp_gen ?_; intro V hV
  have hVE : Ext w V := by rw [hV]; exact (by repeat (first | exact Ext.refl _ | assumption | refine Ext.alloc ?_ _ | refine Ext.drew ?_ | refine Ext.setCell ?_ (by first | (simp; done) | (dsimp only; omega)) _ | refine Ext.trans ?_ (by assumption)))
  have hVA : V.heap[w.heap.size]? = some (.cells #[.int .i64 16, .slice sa n sc, .slice none 0 0] 41 (0, 0)) := by rw [hV]; exact (alloc_other _ _ (by simp)).trans (alloc_same ..)
  have hVB : V.heap[w.heap.size + 1]? = some (.cells #[.int .u64 root, .int .i64 kd, .bool us, .bool ac, .bool wp, .bool nxe, .bool sp, .bool sm] 47 (0, 0)) := by rw [hV]; exact alloc_same1 ..
  obtain ⟨ub, hub⟩ : ∃ ub, w.heap.size = ub := ⟨_, rfl⟩
  rw [hub] at hVA hVB ⊢
  have hwu : w.heap.size ≤ ub := by omega
  have x0 := (heap_cell hVA 0).trans rfl
  have x1 := (heap_cell hVA 1).trans rfl
  have x2 := (heap_cell hVA 2).trans rfl
  have xl := heap_lt hVA
  have y0 := (heap_cell hVB 0).trans rfl
  have y5 := (heap_cell hVB 5).trans rfl
  have yl := heap_lt hVB
  have VE := Lib.hid hVE
  have hsV := hVE.size
  clear hV hVE hVA hVB hub
  refine region_mixT 13 [12, 13] (fun i => if i = 12 then .cells #[.int .i64 0, .slice none 0 0, .slice none 0 0] 41 (0, 0) else .cells #[.slice none 0 0, .int .i64 0, .bool false, .bool false, .bool false, .int .i64 0, .int .u64 0] 103 (0, 0)) [.q [0, 1, 2, 4, 5, 6, 7], .l 3 5, .l 8 5, .q [9, 10], .b [11], .l 12 4, .l 13 4, .l 14 2, .l 15 2] (by kernel_rfl) (by kernel_rfl) (fun i hi => (List.mem_cons.1 hi).elim (fun h => by subst h; exact alloc_runA rfl (by kernel_rfl : _ = some (some (Value.agg (#[.int .i64 0, .slice none 0 0, .slice none 0 0])))) rfl) fun h => by obtain rfl := List.mem_singleton.1 h; exact alloc_runA rfl (by kernel_rfl : _ = some (some (Value.agg (#[.slice none 0 0, .int .i64 0, .bool false, .bool false, .bool false, .int .i64 0, .int .u64 0])))) rfl) ?_
  (repeat (unfold wpPlanT; simp only [pickL, List.map_cons, List.map_nil, List.getD_cons_succ, List.getD_cons_zero]; (repeat go_big_quiet_step (fail)); refine wpQuiet_nil ?_)); unfold wpPlanT; intro w2 hb2; (try simp only [pickL, List.map_cons, List.map_nil, List.getD_cons_succ, List.getD_cons_zero])
  go_wp2_with (first | (go_at_call 30; refine (HT.out _).mono ?_; rintro e w3 ⟨rfl, hb3⟩))
  have z2 := hb2.size
  have z3 := hb3.size
  refine ⟨⟨by omega, fun _ => hb3, fun h => absurd h (by omega)⟩, ?_⟩
  have E3 := Lib.hid (VE.out.trans (hb2.trans hb3))
  clear hb2 hb3
  (repeat (unfold wpPlanT; simp only [pickL, List.map_cons, List.map_nil, List.getD_cons_succ, List.getD_cons_zero]; (repeat go_big_quiet_step (fail)); refine wpQuiet_nil ?_)); unfold wpPlanT; intro w6 hb6; (try simp only [pickL, List.map_cons, List.map_nil, List.getD_cons_succ, List.getD_cons_zero])
  have E6 := Lib.hid (E3.out.trans hb6)
  have z6 := hb6.size
  clear hb6
  go_wp2_with (first | (go_at_call 29; refine (HFr.out _ (SAt.ext HS.out E6.out)).mono ?_; rintro e w7 ⟨ta, tc, pa, pc, rfl, q1, q2, q3, -⟩))
  have z7 := q3.size
  refine ⟨⟨by omega, fun _ => q3, fun h => absurd h (by omega)⟩, ?_⟩
  have E7 := Lib.hid (E6.out.trans q3)
  have Q7 := Lib.hid q2
  clear q1 q2 q3 x0 x1 x2 y0 y5
  (repeat (unfold wpPlanT; simp only [pickL, List.map_cons, List.map_nil, List.getD_cons_succ, List.getD_cons_zero]; (repeat go_big_quiet_step (fail)); refine wpQuiet_nil ?_)); unfold wpPlanT; intro nb wn hbn hbnB hbnO; simp only [List.getD_cons_succ, List.getD_cons_zero, ptrTo]; simp only [Act.put, Array.set!_eq_setIfInBounds, List.setIfInBounds_toArray, List.set_cons_succ, List.set_cons_zero]; simp only [Nat.reduceEqDiff, if_true, if_false] at hbnO
  have En := Lib.hid (E7.out.trans hbn)
  have Qn := Lib.hid (Q7.out.ext hbn)
  have On := Lib.hid hbnO
  have hnbB := Lib.hid hbnB
  have zn := hbn.size
  clear hbn hbnO
  (repeat (unfold wpPlanT; simp only [pickL, List.map_cons, List.map_nil, List.getD_cons_succ, List.getD_cons_zero]; (repeat go_big_quiet_step (fail)); refine wpQuiet_nil ?_)); unfold wpPlanT; intro pb w8 hb8 hb8B hb8O; simp only [List.getD_cons_succ, List.getD_cons_zero, ptrTo]; simp only [Act.put, Array.set!_eq_setIfInBounds, List.setIfInBounds_toArray, List.set_cons_succ, List.set_cons_zero]; simp only [Nat.reduceEqDiff, if_true, if_false] at hb8O
  have hne : pb ≠ nb := fun e => by
    have h1 := (hb8.block nb (heap_lt On.out)).trans On.out
    rw [e, h1] at hb8O
    simp at hb8O
  have E8 := Lib.hid (En.out.trans hb8)
  have Q8 := Lib.hid (Qn.out.ext hb8)
  have O8 := Lib.hid hb8O
  have N8 := Lib.hid ((hb8.block nb (heap_lt On.out)).trans On.out)
  have hpb := heap_lt hb8O
  have hpbB := Lib.hid hb8B
  have z8 := hb8.size
  clear hb8 hb8O
  (repeat (unfold wpPlanT; simp only [pickL, List.map_cons, List.map_nil, List.getD_cons_succ, List.getD_cons_zero]; (repeat go_big_quiet_step (fail)); refine wpQuiet_nil ?_)); unfold wpPlanT; intro w9 hb9; (try simp only [pickL, List.map_cons, List.map_nil, List.getD_cons_succ, List.getD_cons_zero])
  have b9 := (hb9.block pb hpb).trans O8.out
  have n9 := (hb9.block nb (heap_lt N8.out)).trans N8.out
  have g0 := (heap_cell n9 0).trans rfl
  have g1 := (heap_cell n9 1).trans rfl
  have g2 := (heap_cell n9 2).trans rfl
  have gf := frozen_of n9
  have gl := heap_lt n9
  have N9 := Lib.hid n9
  have B9 := Lib.hid b9
  have E9 := Lib.hid (E8.out.trans hb9)
  have Q9 := Lib.hid (Q8.out.ext hb9)
  have z9 := hb9.size
  clear b9 n9 hb9
  go_wp2
  refine ⟨⟨by simp; omega, fun h => absurd h (by omega), fun h => absurd h (by omega)⟩, ?_⟩
  clear g0 g1 g2 gf gl
  (repeat (unfold wpPlanT; simp only [pickL, List.map_cons, List.map_nil, List.getD_cons_succ, List.getD_cons_zero]; (repeat go_big_quiet_step (fail)); refine wpQuiet_nil ?_)); unfold wpPlanT; intro wx hbx; (try simp only [pickL, List.map_cons, List.map_nil, List.getD_cons_succ, List.getD_cons_zero])
  have hwn : w.heap.size ≤ nb := by have := hnbB.out; omega
  have bx := (hbx.block pb (by simp; exact heap_lt B9.out)).trans ((store3_other (fun e => hne e.symm)).trans B9.out)
  have Ex : Hid (Ext w wx) := Lib.hid ((ext3 E9.out hwn).trans hbx)
  have Qx : Hid (Owns wx 109 3 (.slice pa L.length pc) L.length (rowS L)) := Lib.hid ((Q9.out.keep fun g hg => store3_other (Owns.ne Q9.out N9.out (by decide) g hg)).ext hbx)
  have zx := hbx.size
  simp only [World.size_setCell] at zx
  have g0 := (heap_cell bx 0).trans rfl
  have g1 := (heap_cell bx 1).trans rfl
  have g2 := (heap_cell bx 2).trans rfl
  have g3 := (heap_cell bx 3).trans rfl
  have g4 := (heap_cell bx 4).trans rfl
  have g5 := (heap_cell bx 5).trans rfl
  have g6 := (heap_cell bx 6).trans rfl
  have gf := frozen_of bx
  have gl := heap_lt bx
  have Bx := Lib.hid bx
  clear bx hbx
  go_wp2
  refine ⟨⟨by simp; omega, fun h => absurd h (by omega), fun h => absurd h (by omega)⟩, ?_⟩
  clear g0 g1 g2 g3 g4 g5 g6 gf gl
  (repeat (unfold wpPlanT; simp only [pickL, List.map_cons, List.map_nil, List.getD_cons_succ, List.getD_cons_zero]; (repeat go_big_quiet_step (fail)); refine wpQuiet_nil ?_)); unfold wpPlanT; intro X hX; (try simp only [pickL, List.map_cons, List.map_nil, List.getD_cons_succ, List.getD_cons_zero])
  have hwp : w.heap.size ≤ pb := by have := hpbB.out; omega
  have BX := Lib.hid ((hX.block pb (by simp; exact heap_lt Bx.out)).trans (store7_heap Bx.out))
  have EX : Hid (Ext w X) := Lib.hid ((ext7 Ex.out hwp).trans hX)
  have QX : Hid (Owns X 109 3 (.slice pa L.length pc) L.length (rowS L)) := Lib.hid ((Qx.out.keep fun g hg => store7_other (Owns.ne Qx.out Bx.out (by decide) g hg)).ext hX)
  clear hX
  have x0 := (heap_cell BX.out 0).trans rfl
  have x1 := (heap_cell BX.out 1).trans rfl
  have xl := heap_lt BX.out
  cases cn
  case false =>
    as_aux_lemma =>
      go_wp2_with (first | (go_at_call 31; refine (HCn.out _).mono ?_; rintro e y1 ⟨rfl, hy1⟩))
      go_ret
      rw [← HE.out]
      exact ⟨_, rfl, Owns.nil .., fun g e => (by cases e), EX.out.trans hy1⟩
  case true =>
    by_cases hw : why = 0
    case neg =>
      have hwb : (why != 0) = true := by simpa using hw
      have HE2 : Hid ([] = E) := Lib.hid (by rw [← HE.out]; simp [hw])
      clear hw
      go_wp2_with (first | (go_at_call 31; refine (HCn.out _).mono ?_; rintro e y1 ⟨rfl, hy1⟩; have ⟨hc, hf, hh, hs⟩ := hy1.facts))
      go_ret
      rw [← HE2.out]
      exact ⟨_, rfl, Owns.nil .., fun g e => (by cases e), EX.out.trans hy1⟩
    case pos =>
      subst hw
      have HE2 : Hid (L.map (·.2.1) = E) := Lib.hid (by rw [← HE.out]; simp)
      clear HE
      go_upto_region 6 with (first | (go_at_call 31; refine (HCn.out _).mono ?_; rintro e y1 ⟨rfl, hy1⟩; have ⟨hc, hf, hh, hs⟩ := hy1.facts))
      have EY := Lib.hid (EX.out.trans hy1)
      have SY := Lib.hid (StepsAt.ofT (QX.out.ext hy1))
      have BY := Lib.hid ((hy1.block _ (heap_lt BX.out)).trans BX.out)
      have zy := EY.out.size
      clear hc hf hh hs hy1 x0 x1 xl
      go_loopw [9, 10] (fun l i wr => ∃ (j : Nat) (la : Option Addr) (lc : Nat), j ≤ L.length ∧ i = .int .i64 j ∧ l = .slice la j lc ∧ y1.heap.size ≤ wr.heap.size ∧ Hid (Owns wr 23 1 (.slice la j lc) j (rowI ((L.take j).map (·.2.1))) ∧ (∀ g, (Value.slice la j lc).ownBlock = some g → y1.heap.size ≤ g) ∧ Ext y1 wr)) (fun _ i _ => L.length - (intOf i).toNat)
      case atStart => exact ⟨0, none, 0, by omega, rfl, rfl, by omega, Lib.hid ⟨Owns.nil .., fun g e => (by cases e), Ext.refl _⟩⟩
      case round =>
        obtain ⟨j, la, lc, hj, rfl, rfl, hwr, hR⟩ := hrel
        have by1 := (hR.out.2.2.block _ (heap_lt BY.out)).trans BY.out
        have x0 := (heap_cell by1 0).trans rfl
        have xl := heap_lt by1
        clear by1
        by_cases hlt : j < L.length
        · obtain ⟨g, o, rfl, hgl, d0, d1, d2⟩ := (SY.out.ext hR.out.2.2) j hlt
          have hst : (L.take (j + 1)).map (·.2.1) = (L.take j).map (·.2.1) ++ [(stpAt L j).2.1] := by
            have e : L.take (j + 1) = L.take j ++ [stpAt L j] := by rw [List.take_add_one, List.getElem?_eq_getElem hlt]; simp [stpAt, List.getD, hlt]
            rw [e]; simp
          have HS1 := Lib.hid hst
          clear hst
          generalize stpAt L j = s at d0 d1 d2 HS1
          obtain ⟨s0, s1, s2⟩ := s
          dsimp only at d0 d1 d2 HS1
          go_upto_region 8 with (fail)
          have HA := Lib.hid (hR.out.1.ext ((Ext.refl wr).alloc (.cells #[.int .u64 s1] 23)))
          go_wp2_with (first | (at_builtin; refine wpList_append_owns rfl _ _ _ _ 1 8 wordRow rfl _ rfl j _ HA.out _ 1 1 rfl [.int .u64 s1] rfl (fun j u hu => by rw [add0, heap_cell (alloc_same wr _) j]; simpa using hu) (by simp [Value.oneCell']) (by unfold maxLen; omega) (by omega) ?_; intro v9 w9 q1 q2 q3; replace q2 : (wr.alloc (.cells #[.int .u64 s1] 23)).grownBy w9 (Value.slice la j lc).ownBlock := q2; replace q3 : v9.ownBlock = (Value.slice la j lc).ownBlock ∨ v9.ownBlock = some (wr.alloc (.cells #[.int .u64 s1] 23)).heap.size := q3; obtain ⟨a9, c9, rfl, -, -⟩ := q1.form; simp only [Act.put, Array.set!_eq_setIfInBounds, List.setIfInBounds_toArray, List.set_cons_succ, List.set_cons_zero]))
          all_goals
            have ⟨g1, g2, g3, g4⟩ := grown_after (prev := Value.slice la j lc) (o := (.cells #[.int .u64 s1] 23)) (base := y1.heap.size) (by omega) (Nat.le_refl _) hR.out.2.2 hR.out.2.1 q2 q3
            refine ⟨⟨j + 1, a9, c9, hlt, by go_num, rfl, g4, Lib.hid ⟨?_, g3, g1⟩⟩, by simp [intOf]; omega⟩
            rw [HS1.out]; simpa [rowI] using q1
        · have hjx : j = L.length := by omega
          subst hjx
          go_wp2
          go_ret
          have ho := hR.out.1
          rw [List.take_length, HE2.out] at ho
          have hle : L.length = E.length := by rw [← HE2.out]; simp
          refine ⟨_, rfl, ?_, fun g hg => ?_, EY.out.trans hR.out.2.2⟩
          · rw [← hle]; exact ho
          · have := hR.out.2.1 g hg; omega
end Go.Proofs.YtkfonacokamfiaaGreat
/- The law's look whether a memory is the document's. (same15_c's twin.) Own text. -/
namespace Go.Proofs.YtkfonacokamfiaaGreat
set_option linter.unusedVariables false
set_option linter.unusedSimpArgs false
open Go.RowKit
attribute [local go_sem] wext_cell wext_frozen wext_heap alloc_cell alloc_frozen alloc_heap setCell_cell objCell_cells objFrozen_cells

/-- The document's memory is the program's. -/
theorem RefOk.get {B : Int} {S : List (Int × Int)} {M : Int → Int} (h : RefOk B S M) {i : Nat} (hi : i < S.length) : (0 ≤ (wAt S i).1 ∧ (wAt S i).1 ≤ 18446744073709551615) ∧ errM B (wAt S i).1 = 0 ∧ M ((wAt S i).1 / 8) = (wAt S i).2 ∧ 0 ≤ (wAt S i).2 ∧ (wAt S i).2 ≤ 18446744073709551615 := by
  have hm : wAt S i ∈ S := by
    have : wAt S i = S[i] := by simp [wAt, List.getD, hi]
    rw [this]; exact List.getElem_mem hi
  obtain ⟨h1, h2, h3⟩ := h.entry hm
  obtain ⟨⟨k1, k2⟩, k3⟩ := h.word_le hm
  exact ⟨⟨h1, by omega⟩, h2, h3, k3⟩
set_option maxHeartbeats 600000 in
set_option maxRecDepth 20000 in
theorem same15_c (mb : Nat) (F : List Nat) (M : Int → Int) (T : List Int) (S : List (Int × Int)) (sa ta : Option Addr) (sc tc : Nat) (w : World) (h : MemAt w mb F 16 M T) (hS : SAt w sa sc S) (hT : TrAt w ta tc T) (hok : RefOk 16 S M) (hl : S.length ≤ 1000000) (hTl : T.length ≤ 1000000) :
    Calls Tryz.prog 13 #[.pointer (some ⟨mb, 0, none⟩), .agg #[.int .i64 16, .slice sa S.length sc, .slice ta T.length tc]] w fun e w' => e = .returned (.bool true) ∧ Ext w w' := by
  have H := Lib.hid h
  have HS := Lib.hid hS
  have HT := Lib.hid hT
  have HO := Lib.hid hok
  have HTr := Lib.hid (fun w h => trace_c mb F 16 M T w h hTl)
  clear h hS hT hok
  go_enter Tryz.func13, Tryz.ntmps13
  go_wp2
  refine wp_gen ?_; intro V hV
  have hVE : Ext w V := by rw [hV]; exact (by repeat (first | exact Ext.refl _ | assumption | refine Ext.alloc ?_ _ | refine Ext.drew ?_ | refine Ext.setCell ?_ (by first | (simp; done) | (dsimp only; omega)) _ | refine Ext.trans ?_ (by assumption)))
  have hV0 : V.heap[w.heap.size]? = some (.cells #[.int .i64 16, .slice sa S.length sc, .slice ta T.length tc] 41 (0, 0)) := by rw [hV]; exact alloc_same ..
  obtain ⟨vb, hvb⟩ : ∃ vb, w.heap.size = vb := ⟨_, rfl⟩
  rw [hvb] at hV0 ⊢
  have VE := Lib.hid hVE
  have V0 := Lib.hid hV0
  clear hV hVE hV0 hvb
  go_loopw [5] (fun iv wr => ∃ i : Nat, i ≤ S.length ∧ iv = .int .i64 i ∧ Hid (Ext V wr)) (fun iv _ => S.length - (intOf iv).toNat)
  case atStart => exact ⟨0, by omega, rfl, Lib.hid (Ext.refl _)⟩
  case round =>
    obtain ⟨i, hi, rfl, hR⟩ := hrel
    have hc := (hR.out.block _ (heap_lt V0.out)).trans V0.out
    have c0 := (heap_cell hc 0).trans rfl
    have c1 := (heap_cell hc 1).trans rfl
    have c2 := (heap_cell hc 2).trans rfl
    have cl := heap_lt hc
    by_cases hlt : i < S.length
    · obtain ⟨g, rfl, hgl, s0, s1⟩ := SAt.at (SAt.ext HS.out (VE.out.trans hR.out)) hlt
      obtain ⟨⟨k0, k1⟩, ke, km, k2, k3⟩ := HO.out.get hlt
      generalize wAt S i = z at s0 s1 k0 k1 ke km k2 k3
      obtain ⟨za, zx⟩ := z
      dsimp only at s0 s1 k0 k1 ke km k2 k3
      have hp := fun w h => peek_c mb F 16 M T za w h k0 k1
      rw [if_pos ke, ke, km] at hp
      have HP := Lib.hid hp
      have hzz : (zx != zx) = false := by simp
      clear hp ke km hc
      go_wp2_with (first | (go_at_call 32; refine (HP.out _ (H.out.ext ((VE.out.trans hR.out).trans (by repeat (first | exact Ext.refl _ | assumption | refine Ext.alloc ?_ _ | refine Ext.drew ?_ | refine Ext.setCell ?_ (by first | (simp; done) | (dsimp only; omega)) _ | refine Ext.trans ?_ (by assumption)))))).mono ?_; rintro e w1 ⟨rfl, hb1⟩; have ⟨hc, hf, hh, hs⟩ := hb1.facts; try simp only [World.size_alloc, World.size_setCell, World.size_drew] at hs))
      refine ⟨⟨i + 1, by omega, by go_num, Lib.hid (hR.out.trans (Ext.trans (by repeat (first | exact Ext.refl _ | assumption | refine Ext.alloc ?_ _ | refine Ext.drew ?_ | refine Ext.setCell ?_ (by first | (simp; done) | (dsimp only; omega)) _ | refine Ext.trans ?_ (by assumption))) hb1))⟩, by simp [intOf]; omega⟩
    · obtain rfl : i = S.length := by omega
      have HX := Lib.hid (VE.out.trans hR.out)
      clear hc
      go_upto_region 7 with (fail)
      refine region_mixG [.q [0, 2, 3], .l 1 3, .l 4 3, .q [5]] (by kernel_rfl) (by kernel_rfl) ?_
      have HB5 := HX
      (try refine ⟨fun h => absurd h (by simp), ?_⟩); (repeat (unfold wpPlan; simp only [pickL, List.map_cons, List.map_nil, List.getD_cons_succ, List.getD_cons_zero]; (repeat go_big_quiet_step (fail)); refine wpQuiet_nil ?_)); unfold wpPlan; intro w6 hb6; (try simp only [pickL, List.map_cons, List.map_nil, List.getD_cons_succ, List.getD_cons_zero])
      go_wp2_with (first | (go_at_call 18; refine (HTr.out _ (H.out.ext (HB5.out.trans hb6))).mono ?_; rintro e w7 ⟨v7, rfl, hO7, hE7, -⟩; obtain ⟨a7, c7, rfl, -, -⟩ := hO7.form))
      refine ⟨?_, ?_⟩
      · (try intro _); exact hb6.trans hE7
      have HB7 := Lib.hid (HB5.out.trans (hb6.trans hE7))
      have HO7 := Lib.hid hO7
      clear hb6 hE7 hO7
      (try refine ⟨fun h => absurd h (by simp), ?_⟩); (repeat (unfold wpPlan; simp only [pickL, List.map_cons, List.map_nil, List.getD_cons_succ, List.getD_cons_zero]; (repeat go_big_quiet_step (fail)); refine wpQuiet_nil ?_)); unfold wpPlan; intro w8 hb8; (try simp only [pickL, List.map_cons, List.map_nil, List.getD_cons_succ, List.getD_cons_zero])
      have hsm := rSame_c a7 ta T T c7 tc w8 (TrAt.ws (HO7.out.ext hb8)) (TrAt.ws (TrAt.ext HT.out (HB7.out.trans hb8))) hTl hTl
      rw [decide_eq_true (rfl : T = T)] at hsm
      have HSM := Lib.hid hsm
      clear hsm
      go_wp2_with (first | (go_at_call 9; refine HSM.out.mono ?_; rintro e w9 ⟨rfl, hE9⟩))
      refine ⟨?_, ?_⟩
      · (try intro _); exact hb8.trans hE9
      have HB9 := Lib.hid (HB7.out.trans (hb8.trans hE9))
      clear hb8 hE9
      (try refine ⟨fun h => absurd h (by simp), ?_⟩); (repeat (unfold wpPlan; simp only [pickL, List.map_cons, List.map_nil, List.getD_cons_succ, List.getD_cons_zero]; (repeat go_big_quiet_step (fail)); refine wpQuiet_nil ?_)); unfold wpPlan; intro wa hba; (try simp only [pickL, List.map_cons, List.map_nil, List.getD_cons_succ, List.getD_cons_zero])
      go_wp2
      (try go_ret)
      exact ⟨rfl, HB9.out.trans hba⟩
end Go.Proofs.YtkfonacokamfiaaGreat
