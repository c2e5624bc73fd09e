/- Joined texts, part 9 of what the law stands on: each as its own head says. -/
import Derived.Test.YtkfonacokamfiaaGreatGoz8
import Derived.Maps.RangeRun
import Derived.Maps.RangeWalk
import Derived.Test.YtkfonacokamfiaaGreatGoz2
import Derived.DeepKeys3
import Derived.ChangeMaps5
/- Copy: a memory of the same bytes. -/
namespace Go.Proofs.YtkfonacokamfiaaGreat
set_option linter.unusedVariables false
set_option linter.unusedSimpArgs false
open Go.RowKit
attribute [local go_sem] wext_cell wext_frozen wext_heap alloc_cell alloc_frozen alloc_heap setCell_cell objCell_cells objFrozen_cells
section
variable {P : Program} {w : World} {ops : Array Oper} {rest : List Oper} {o : Oper} {a : Act} {Q : Exit → Act → World → Prop}
theorem wpList_next_raw (hg : o.guard = none) (it : Operand) (hop : o.op = Op.next it false) (r bm since c0 : Nat) (seen : Array Nat) (es : Array MapEntry) (clock : Nat)
  (hit : a.eval it = .pointer (some ⟨r, 0, none⟩)) (hr : w.heap[r]? = some (.mapIter (some bm) since seen c0)) (hb : w.heap[bm]? = some (.map es clock)) (hold : ∀ x ∈ es.toList, x.born < since) (hsc : since ≤ c0)
  (hDone : (leftOf es seen).size = 0 → wpList P ops Q rest (a.put o.dst (.tuple #[.bool false])) w)
  (hMore : ∀ e ∈ (leftOf es seen).toList, ∀ w' : World, Keeps [r] w w' → w'.heap[r]? = some (.mapIter (some bm) since (seen.push e.born) clock) → wpList P ops Q rest (a.put o.dst (.tuple #[.bool true, e.key, e.val])) w') :
  wpList P ops Q (o :: rest) a w := by
 refine wpList_plain hg fun K' hK' => ?_
 unfold Oper.wp
 rcases run_next_at (P := P) w o.type r bm since c0 seen es clock hr hb hold hsc with ⟨h0, hrun⟩ | ⟨e, he, w1, hw1, hrun⟩
 ·simp [execOp, hop, hit, hrun, Result.andThen]
  exact hK' _ _ (hDone h0)
 ·simp [execOp, hop, hit, hrun, Result.andThen]
  refine hK' _ _ (hMore e he _ ?_ ?_)
  ·have k1 : Keeps [r] w w1 := by
    rcases hw1 with rfl | rfl
    ·exact Keeps.refl _ _
    ·exact Keeps.of_ext (Ext.refl _).drew
   exact k1.put (.inl (by simp)) _
  ·have hl : r < w1.heap.size := by
    have := heap_lt hr
    rcases hw1 with rfl | rfl
    ·exact this
    ·exact this
   exact putBlk_same w1 r _ hl
end
theorem range_run (w : World) (pb : Nat) (es : Array MapEntry) (clock : Nat) (hb : w.heap[pb]? = some (.map es clock)) :
  (Instr.range 122 (.map (some pb))).run Tryz.prog w = .ok (.pointer (some ⟨w.heap.size, 0, none⟩)) (w.alloc (.mapIter (some pb) clock #[] clock)) := by
 unfold Instr.range
 rw [Sem.run_bind]
 simp only [Sem.run_bind, run_underlying Tryz.underlying122, Result.andThen_ok, getObj_at hb, Sem.run_pure]
 rfl
theorem memNew_x (B : Int) (w : World) (hB : 14 ≤ B ∧ B ≤ 22) :
  Calls Tryz.prog 19 #[.int .i64 B] w fun e w' => e = .returned (.pointer (some ⟨w.heap.size + 1, 0, none⟩)) ∧ w'.heap[w.heap.size + 1]? = some (.cells #[.int .i64 B, .map (some w.heap.size), .slice none 0 0] 124 (0, 0)) ∧ w'.heap[w.heap.size]? = some (.map #[] 0) ∧ Ext w w' := by
 have hmk : ∀ w, (Instr.makeMap 122 none).run Tryz.prog w = .ok (.map (some w.heap.size)) (w.alloc (.map #[] 0)) := fun _ => rfl
 obtain ⟨hB0, hB1⟩ := hB
 go_enter Tryz.func19, Tryz.ntmps19
 go_wp2
 all_goals
  go_ret
  refine ⟨rfl, alloc_same1 .., ?_, (by repeat (first | exact Ext.refl _ | assumption | refine Ext.alloc ?_ _ | refine Ext.drew ?_ | refine Ext.setCell ?_ (by first | (simp; done) | (dsimp only; omega)) _ | refine Ext.trans ?_ (by assumption)))⟩
  rw [alloc_other _ _ (by simp), alloc_same]
theorem nodup_eq {α β : Type} {f : α → β} : ∀ {l : List α} {x y : α}, (l.map f).Nodup → x ∈ l → y ∈ l → f x = f y → x = y
 | [], _, _, _, h, _, _ => by cases h
 | a :: l, x, y, hn, hx, hy, e => by
  simp only [List.map_cons, List.nodup_cons] at hn
  obtain ⟨hn1, hn2⟩ := hn
  rcases List.mem_cons.1 hx with h1 | h1
  ·rcases List.mem_cons.1 hy with h2 | h2
   ·rw [h1, h2]
   ·exact absurd (List.mem_map.2 ⟨y, h2, by rw [← e, h1]⟩) hn1
  ·rcases List.mem_cons.1 hy with h2 | h2
   ·exact absurd (List.mem_map.2 ⟨x, h1, by rw [e, h2]⟩) hn1
   ·exact nodup_eq hn2 h1 h2 e
theorem EntP.mem {es : Array MapEntry} {clock : Nat} {PL : List (Int × Nat)} (h : EntP es clock PL) {e : MapEntry} (he : e ∈ es.toList) : ∃ n g, (n, g) ∈ PL ∧ e.key = .int .u64 n ∧ e.val = .pointer (some ⟨g, 0, none⟩) := by
 have : (e.key, e.val) ∈ es.toList.map (fun e => (e.key, e.val)) := List.mem_map.2 ⟨e, he, rfl⟩
 rw [h.2] at this
 obtain ⟨⟨n, g⟩, h1, h2⟩ := List.mem_map.1 this
 simp only [Prod.mk.injEq] at h2
 exact ⟨n, g, h1, h2.1.symm, h2.2.symm⟩
theorem EntP.entry {es : Array MapEntry} {clock : Nat} {PL : List (Int × Nat)} (h : EntP es clock PL) {n : Int} {g : Nat} (hx : (n, g) ∈ PL) : ∃ e ∈ es.toList, e.key = .int .u64 n := by
 have : ((Value.int .u64 n, Value.pointer (some ⟨g, 0, none⟩)) : Value × Value) ∈ PL.map fun x => (Value.int .u64 x.1, Value.pointer (some ⟨x.2, 0, none⟩)) := List.mem_map.2 ⟨(n, g), hx, rfl⟩
 rw [← h.2] at this
 obtain ⟨e, h1, h2⟩ := List.mem_map.1 this
 simp only [Prod.mk.injEq] at h2
 exact ⟨e, h1, h2.1⟩
theorem EntP.key_inj {es : Array MapEntry} {clock : Nat} {PL : List (Int × Nat)} (h : EntP es clock PL) (hn : (PL.map (·.1)).Nodup) {e e' : MapEntry} (he : e ∈ es.toList) (he' : e' ∈ es.toList) (hk : e.key = e'.key) : e = e' := by
 have h1 : (es.toList.map (·.key)) = PL.map fun x => Value.int .u64 x.1 := by
  have := congrArg (List.map Prod.fst) h.2
  simpa [List.map_map, Function.comp_def] using this
 have h2 : (es.toList.map (·.key)).Nodup := by
  rw [h1]
  have : PL.map (fun x => Value.int .u64 x.1) = (PL.map (·.1)).map (Value.int .u64) := by simp [List.map_map, Function.comp_def]
  rw [this]
  exact List.Pairwise.map _ (fun a b hab e => hab (by injection e)) hn
 exact nodup_eq h2 he he' hk
theorem nodup_le : ∀ {l k : List Int}, l.Nodup → (∀ x ∈ l, x ∈ k) → l.length ≤ k.length
 | [], k, _, _ => Nat.zero_le _
 | x :: l, k, hn, h => by
  simp only [List.nodup_cons] at hn
  have hx := h x (List.mem_cons_self ..)
  have := nodup_le (l := l) (k := k.erase x) hn.2 (fun y hy => (List.mem_erase_of_ne (fun e => hn.1 (by rw [← e]; exact hy))).2 (h y (List.mem_cons_of_mem _ hy)))
  rw [List.length_erase_of_mem hx] at this
  have := List.length_pos_of_mem hx
  simp only [List.length_cons]; omega
structure CopyAt (U w : World) (rb pb cb cpb : Nat) (es : Array MapEntry) (clock : Nat) (B : Int) (M : Int → Int) (seen : Array Nat) (c0 : Nat) (ec : Array MapEntry) (cc : Nat) (PC : List (Int × Nat)) (base : Nat) : Prop where
 ext : Ext U w
 it : w.heap[rb]? = some (.mapIter (some pb) clock seen c0)
 late : clock ≤ c0
 mem : w.heap[cb]? = some (.cells #[.int .i64 B, .map (some cpb), .slice none 0 0] 124 (0, 0))
 map : w.heap[cpb]? = some (.map ec cc)
 ent : EntP ec cc PC
 keys : (PC.map (·.1)).Nodup
 blks : (PC.map (·.2)).Nodup
 page : ∀ x ∈ PC, PageAt w x.2 x.1 M ∧ base ≤ x.2
 done : ∀ e ∈ es.toList, ∀ n, e.key = .int .u64 n → (n ∈ PC.map (·.1) ↔ seen.contains e.born = true)
 few : seen.size = PC.length
 sub : ∀ x ∈ PC.map (·.1), ∃ e ∈ es.toList, e.key = .int .u64 x
def copyLeft (rb : Nat) (es : Array MapEntry) (w : World) : Nat := match w.heap[rb]? with | some (.mapIter _ _ seen _) => es.size - seen.size | _ => 0
def EndCopy (w : World) (B : Int) (M : Int → Int) (e : Ending) (w' : World) : Prop :=
 ∃ cb, e = .returned (.pointer (some ⟨cb, 0, none⟩)) ∧ MemP (w.heap.size ≤ ·) w' cb B M [] ∧ Ext w w'
set_option maxHeartbeats 4000000 in
set_option maxRecDepth 100000 in
theorem copy_c (mb : Nat) (F : List Nat) (B : Int) (M : Int → Int) (T : List Int) (w : World) (h : MemAt w mb F B M T) :
  Calls Tryz.prog 24 #[.pointer (some ⟨mb, 0, none⟩)] w (EndCopy w B M) := by
 obtain ⟨pb, tv, es, clock, PL, p1, p2, p3, p4, p5, p6, p7, p8, p9, hF, hB⟩ := h
 have hlt := heap_lt p1
 have hlp := heap_lt p2
 have c0 := (heap_cell p1 0).trans rfl
 have c1 := (heap_cell p1 1).trans rfl
 have P2 := Lib.hid p2
 have P1 := Lib.hid p1
 have P3 := Lib.hid p3
 have P4 := Lib.hid p4
 have P6 := Lib.hid p6
 have P7 := Lib.hid p7
 have P8 := Lib.hid p8
 have hBB := hB
 obtain ⟨hB0, hB1⟩ := hB
 generalize hE : EndCopy w B M = E
 have HE := Lib.hid hE
 clear p1 p2 p3 p4 p5 p6 p7 p8 p9 hF hE
 go_enter Tryz.func24, Tryz.ntmps24
 go_upto_region 4 with (first | (go_at_call 19; refine (memNew_x B _ hBB).mono ?_; rintro e w1 ⟨rfl, n1, n2, hE1⟩))
 have hrg := range_run w1 pb es clock ((hE1.block _ hlp).trans P2.out)
 have d1 := (heap_cell ((hE1.block _ hlt).trans P1.out) 1).trans rfl
 have hlt1 := Nat.lt_of_lt_of_le hlt hE1.size
 have hz1 := heap_lt n1
 have N1 := Lib.hid n1
 have N2 := Lib.hid n2
 have E1 := Lib.hid hE1
 clear n1 n2 hE1 c0 c1
 go_wp2
 clear hrg d1
 obtain ⟨cb, hcb⟩ : ∃ cb, w.heap.size + 1 = cb := ⟨_, rfl⟩
 obtain ⟨cpb, hcpb⟩ : ∃ cpb, w.heap.size = cpb := ⟨_, rfl⟩
 rw [hcb] at N1 hz1 ⊢
 obtain ⟨rb, hrb⟩ : ∃ rb, w1.heap.size = rb := ⟨_, rfl⟩
 have hne : cpb < cb ∧ cb < rb ∧ w.heap.size ≤ cpb := by omega
 obtain ⟨hne1, hne2, hne3⟩ := hne
 rw [hcpb] at N1 N2
 have hst : CopyAt w (w1.alloc (.mapIter (some pb) clock #[] clock)) rb pb cb cpb es clock B M #[] clock #[] 0 [] w.heap.size :=
  ⟨E1.out.alloc _, by rw [← hrb]; exact alloc_same .., Nat.le_refl _, (alloc_other _ _ (by omega)).trans N1.out, (alloc_other _ _ (by omega)).trans N2.out, ⟨⟨(fun e h => by simp at h), by simp⟩, rfl⟩, by simp, by simp, (fun x hx => by cases hx), (fun e _ n _ => by simp), rfl, (fun x hx => by simp at hx)⟩
 have HST := Lib.hid hst
 rw [hrb]
 clear hst hcb hcpb hrb hz1
 (try go_frame)
 go_loopw [19] (fun _ wr => ∃ (seen : Array Nat) (k0 : Nat) (ec : Array MapEntry) (cc : Nat) (PC : List (Int × Nat)), Hid (CopyAt w wr rb pb cb cpb es clock B M seen k0 ec cc PC w.heap.size)) (fun _ wr => copyLeft rb es wr)
 case atStart => exact ⟨_, _, _, _, _, HST⟩
 case round =>
  obtain ⟨seen, k0, ec, cc, PC, hR⟩ := hrel
  go_wp2_with (first | (at_next; refine wpList_next_raw rfl _ rfl rb pb clock k0 seen es clock rfl hR.out.it ((hR.out.ext.block _ hlp).trans P2.out) P3.out.1.1 hR.out.late ?_ ?_))
  ·intro h0
   (try go_frame)
   go_wp2
   all_goals
    (try go_ret)
    rw [← HE.out]
    refine ⟨cb, rfl, ⟨cb :: cpb :: ((Value.slice none 0 0).ownBlock.toList ++ PC.map (·.2)), ⟨cpb, .slice none 0 0, ec, cc, PC, hR.out.mem, hR.out.map, hR.out.ent, hR.out.keys, hR.out.blks, fun x hx => (hR.out.page x hx).1, fun s hs => ?_, P8.out, Owns.nil .., rfl, hBB⟩, fun x hx => ?_⟩, hR.out.ext⟩
    ·cases hf : findP (s / 512) PL with
     | none => exact P7.out s hf
     | some g =>
      obtain ⟨e, he, hk⟩ := P3.out.entry (findP_mem hf)
      have hs1 : seen.contains e.born = true := by
       cases hq : seen.contains e.born with
       | true => rfl
       | false =>
        have hm : e ∈ leftOf es seen := by
         unfold leftOf
         rw [Array.mem_filter]
         exact ⟨by simpa using he, by rw [hq]; rfl⟩
        have : (leftOf es seen) = #[] := by first | exact h0 | exact Array.eq_empty_of_size_eq_zero h0
        rw [this] at hm; simp at hm
      exact absurd ((hR.out.done e he _ hk).2 hs1) (findP_not hs)
    ·simp only [Value.ownBlock, Option.map_none, Option.toList_none, List.nil_append, List.mem_cons, List.mem_map] at hx
     rcases hx with rfl | rfl | ⟨y, hy, rfl⟩
     ·omega
     ·exact hne3
     ·exact (hR.out.page y hy).2
  ·intro e he w2 k2 hit2
   have he2 : e ∈ es.toList ∧ seen.contains e.born = false := by
    have he3 : e ∈ leftOf es seen := by simpa using he
    unfold leftOf at he3
    rw [Array.mem_filter] at he3
    exact ⟨by simpa using he3.1, by simpa using he3.2⟩
   obtain ⟨n, g, hng, hk, hv⟩ := P3.out.mem he2.1
   have hpb2 : w2.heap[pb]? = some (.map es clock) := (k2.block pb (Nat.lt_of_lt_of_le hlp hR.out.ext.size) (by simp; omega)).trans ((hR.out.ext.block _ hlp).trans P2.out)
   have hen := run_entry_at (P := Tryz.prog) w2 rb pb clock seen es clock e hit2 hpb2 he2.1 P3.out.1.2
   rw [hk, hv] at hen ⊢
   obtain ⟨c, hc1, hc2, hc3⟩ := P6.out _ hng
   dsimp only at hc1 hc3
   have hgl := heap_lt hc1
   have hg2 : w2.heap[g]? = some (.cells c 139 (0, 0)) := (k2.block g (Nat.lt_of_lt_of_le hgl hR.out.ext.size) (by simp; omega)).trans ((hR.out.ext.block _ hgl).trans hc1)
   have hcb2 := (k2.block cb (heap_lt hR.out.mem) (by simp; omega)).trans hR.out.mem
   have hcp2 := (k2.block cpb (heap_lt hR.out.map) (by simp; omega)).trans hR.out.map
   have hone : c.all (·.oneCell') = true := by
    rw [Array.all_eq_true]
    intro i hi
    have := hc3 i (by omega)
    rw [Array.getElem?_eq_getElem hi] at this
    injection this with this
    rw [this]; rfl
   have hzz := zeros
   have hi512 : (Tryz.prog.info? 139).map (·.size) = some c.size := by rw [hc2]; kernel_rfl
   have hcbl := heap_lt hcb2
   have d1 := (heap_cell hcb2 1).trans rfl
   have hEW : Ext w w2 := Keeps.to_ext hR.out.ext k2 (by simp; omega)
   have G2 := Lib.hid hg2
   have C2 := Lib.hid hcb2
   have M2 := Lib.hid hcp2
   have I2 := Lib.hid hit2
   have EW := Lib.hid hEW
   have K2 := Lib.hid k2
   have HC := Lib.hid (And.intro hc2 hc3)
   have HO := Lib.hid hone
   have HI := Lib.hid hi512
   have HX := Lib.hid he2
   have HN := Lib.hid hng
   have HK := Lib.hid hk
   have hgl2 := heap_lt hg2
   clear he hpb2 hg2 hcb2 hcp2 hit2 hEW k2 hc1 hc2 hc3 hone hi512 he2 hng hk hv
   (try go_frame)
   go_upto_region 8 with (first | (refine wpList_load_row rfl 139 _ rfl g rfl _ c (0, 0) _ G2.out Tryz.underlying139 rfl HI.out ?_) | (refine wpList_store_row rfl 139 _ _ rfl w2.heap.size c rfl rfl _ _ (alloc_same ..) HI.out (by rw [HC.out.1]; exact zeros.1) HO.out ?_))
   (try simp only [Act.put, Array.set!_eq_setIfInBounds, List.setIfInBounds_toArray, List.set_cons_succ, List.set_cons_zero])
   clear hen
   obtain ⟨ob, hob⟩ : ∃ ob, w2.heap.size = ob := ⟨_, rfl⟩
   rw [hob]
   refine wp_gen ?_; intro U hU
   have a1 : (w2.alloc (.cells Tryz.zeroCells139 139 (0, 0))).heap[ob]? = some (.cells Tryz.zeroCells139 139 (0, 0)) := by rw [← hob]; exact alloc_same ..
   have uo : U.heap[ob]? = some (.cells c 139 (0, 0)) := by rw [hU]; exact setRow_heap _ _ _ _ _ _ a1
   have ux : ∀ b, b < ob → U.heap[b]? = w2.heap[b]? := fun b hb => by rw [hU]; exact (setRow_other _ _ _ _ (by omega)).trans (alloc_other _ _ (by omega))
   have us : w2.heap.size ≤ U.heap.size := by have := heap_lt uo; omega
   have uE : Ext w U := by
    have e1 : Ext w (w2.alloc (.cells Tryz.zeroCells139 139 (0, 0))) := EW.out.alloc _
    refine ⟨?_, ?_, ?_, ?_, fun b hb => (ux b (by have := EW.out.size; omega)).trans (EW.out.block b hb)⟩
    ·rw [hU]; exact e1.os
    ·rw [hU]; exact e1.tape
    ·rw [hU]; exact e1.output
    ·exact Nat.le_trans EW.out.size us
   have ucb := (ux cb (by rw [← hob]; exact heap_lt C2.out)).trans C2.out
   have ucp := (ux cpb (by rw [← hob]; exact heap_lt M2.out)).trans M2.out
   have uit := (ux rb (by rw [← hob]; exact heap_lt I2.out)).trans I2.out
   have hnk : n ∉ PC.map (·.1) := fun hm => by
    have := (hR.out.done e HX.out.1 n HK.out).1 hm
    rw [HX.out.2] at this; cases this
   have hnone : findP n PC = none := by
    cases hf : findP n PC with
    | none => rfl
    | some y => exact absurd (List.mem_map.2 ⟨(n, y), findP_mem hf, rfl⟩) hnk
   obtain ⟨ec', cc', hup, hent'⟩ := updateP_run n ob U cpb ec cc PC ucp hR.out.ent hnone
   have d1 := (heap_cell ucb 1).trans rfl
   have hcbl := heap_lt ucb
   have hcpl := heap_lt ucp
   have hol := heap_lt uo
   have hob2 : cpb ≠ ob ∧ cb ≠ ob ∧ rb ≠ ob := ⟨by have := heap_lt M2.out; omega, by have := heap_lt C2.out; omega, by have := heap_lt I2.out; omega⟩
   have UO := Lib.hid uo
   have UX := Lib.hid ux
   have UE := Lib.hid uE
   have UC := Lib.hid ucb
   have UI := Lib.hid uit
   have HNK := Lib.hid hnk
   have HE' := Lib.hid hent'
   have HOB := Lib.hid hob2
   have HOW := Lib.hid hob
   clear hU a1 uo ux us uE ucb ucp uit hnk hnone hent' hob2 hob
   go_wp2
   have hpg : ∀ b, b ≠ cpb → (putBlk U cpb (.map ec' cc')).heap[b]? = U.heap[b]? := fun b hb => putBlk_heap _ _ _ _ (Ne.symm hb)
   have hfew : (seen.push e.born).size ≤ es.size := by
    have hlen : es.size = PL.length := by
     have := congrArg List.length P3.out.2
     simpa using this
    have hsub : ∀ k, (∃ e ∈ es.toList, e.key = .int .u64 k) → k ∈ PL.map (·.1) := fun k hk => by
     obtain ⟨e, he, hk⟩ := hk
     obtain ⟨n, g, h1, h2, -⟩ := P3.out.mem he
     rw [hk] at h2
     injection h2 with _ h2
     rw [h2]; exact List.mem_map.2 ⟨(n, g), h1, rfl⟩
    have := nodup_le (l := n :: PC.map (·.1)) (k := PL.map (·.1)) (List.nodup_cons.2 ⟨HNK.out, hR.out.keys⟩) (fun x hx => by
     rcases List.mem_cons.1 hx with rfl | hx
     ·exact hsub _ ⟨e, HX.out.1, HK.out⟩
     ·exact hsub _ (hR.out.sub x hx))
    simp only [List.length_cons, List.length_map] at this
    rw [Array.size_push, hR.out.few]; omega
   refine ⟨⟨seen.push e.born, clock, ec', cc', PC ++ [(n, ob)], Lib.hid ⟨?_, (hpg rb (by omega)).trans UI.out, Nat.le_refl _, (hpg cb (by omega)).trans UC.out, putBlk_same _ _ _ hcpl, HE'.out, ?_, ?_, fun y hy => ?_, fun e' he' n' hk' => ?_, ?_, fun x hx => ?_⟩⟩, ?_⟩
   ·exact Keeps.to_ext UE.out ((Keeps.refl [cpb] U).put (.inl (by simp)) _) (by simp; omega)
   ·rw [List.map_append, List.nodup_append]
    refine ⟨hR.out.keys, by simp, fun q hq z hz2 e => HNK.out ?_⟩
    simp only [List.map_cons, List.map_nil, List.mem_singleton] at hz2
    rw [← hz2, ← e]; exact hq
   ·rw [List.map_append, List.nodup_append]
    refine ⟨hR.out.blks, by simp, fun q hq z hz2 e => ?_⟩
    simp only [List.map_cons, List.map_nil, List.mem_singleton] at hz2
    obtain ⟨y, hy, rfl⟩ := List.mem_map.1 hq
    obtain ⟨cy, hcy, _⟩ := (hR.out.page y hy).1
    have h1 := heap_lt hcy
    have h2 := K2.out.size
    have h3 := HOW.out
    omega
   ·rcases List.mem_append.1 hy with hy | hy
    ·obtain ⟨⟨cy, hcy, hcy2⟩, hby⟩ := hR.out.page y hy
     have h1 := heap_lt hcy
     have h2 := K2.out.size
     have h3 := HOW.out
     have hyr : y.2 ≠ rb := fun e => by rw [e, hR.out.it] at hcy; cases hcy
     have hyc : y.2 ≠ cpb := fun e => by rw [e, hR.out.map] at hcy; cases hcy
     exact ⟨⟨cy, (hpg _ hyc).trans ((UX.out _ (by omega)).trans ((K2.out.block _ h1 (by simpa using hyr)).trans hcy)), hcy2⟩, hby⟩
    ·obtain rfl : y = (n, ob) := by simpa using hy
     exact ⟨⟨c, (hpg ob (Ne.symm HOB.out.1)).trans UO.out, HC.out.1, HC.out.2⟩, by have := EW.out.size; have := HOW.out; dsimp only; omega⟩
   ·rw [List.map_append, List.mem_append]
    simp only [List.map_cons, List.map_nil, List.mem_singleton]
    have hpush : (seen.push e.born).contains e'.born = true ↔ seen.contains e'.born = true ∨ e'.born = e.born := by
     simp [Array.contains_iff_mem, Array.mem_push]
    rw [hpush, hR.out.done e' he' n' hk']
    constructor
    ·rintro (h1 | h1)
     ·exact .inl h1
     ·refine .inr ?_
      rw [P3.out.key_inj P4.out he' HX.out.1 (by rw [hk', HK.out, h1])]
    ·rintro (h1 | h1)
     ·exact .inl h1
     ·refine .inr ?_
      have := nodup_eq P3.out.1.2 he' HX.out.1 h1
      rw [this, HK.out] at hk'
      injection hk' with _ hk'
      exact hk'.symm
   ·simp [hR.out.few]
   ·rw [List.map_append, List.mem_append] at hx
    rcases hx with hx | hx
    ·exact hR.out.sub x hx
    ·simp only [List.map_cons, List.map_nil, List.mem_singleton] at hx
     exact ⟨e, HX.out.1, by rw [hx]; exact HK.out⟩
   ·have m1 : copyLeft rb es wr = es.size - seen.size := by unfold copyLeft; rw [hR.out.it]
    have m2 : copyLeft rb es (putBlk U cpb (.map ec' cc')) = es.size - (seen.push e.born).size := by unfold copyLeft; rw [(hpg rb (by omega)).trans UI.out]
    rw [m1, m2]
    simp only [Array.size_push] at *
    omega
end Go.Proofs.YtkfonacokamfiaaGreat
/- Keys and lines of caches: what the model does with them as keys of maps, in the order of the entries. -/
namespace Go.Proofs.YtkfonacokamfiaaGreat
set_option linter.unusedVariables false
set_option linter.unusedSimpArgs false
open Go.RowKit
attribute [local go_sem] wext_cell wext_frozen wext_heap alloc_cell alloc_frozen alloc_heap setCell_cell objCell_cells objFrozen_cells
structure Key where
 p : Int
 l : Int
 t : Int
deriving DecidableEq, Inhabited
def Key.val (k : Key) : Value := .agg #[.int .i64 k.p, .int .i64 k.l, .int .u64 k.t]
structure Line where
 f : Int
 a : Bool
 b : Bool
 c : Bool
 d : Bool
 m : Int
deriving DecidableEq, Inhabited
def Line.val (x : Line) : Value := .agg #[.int .u64 x.f, .bool x.a, .bool x.b, .bool x.c, .bool x.d, .int .u8 x.m]
theorem key_equal (k k' : Key) (w : World) : (Op.equal 187 k.val k'.val).run Tryz.prog w = .ok (decide (k = k')) w := by
 show (Op.equalIn 10000 _ _ _).run _ _ = _
 obtain ⟨p, l, t⟩ := k
 obtain ⟨p', l', t'⟩ := k'
 simp [Key.val, go_sem]
 by_cases h1 : p = p' <;> by_cases h2 : l = l' <;> by_cases h3 : t = t' <;> simp [*]
theorem key_check_at (e : Bool) (k : Key) (w : World) (d : Nat) : (Instr.checkKey e (d + 1 + 1) 187 k.val).run Tryz.prog w = .ok () w := by
 obtain ⟨p, l, t⟩ := k
 simp [Key.val, Instr.checkKey, go_sem]
theorem key_check (e : Bool) (k : Key) (w : World) : (Instr.checkKey e 10000 187 k.val).run Tryz.prog w = .ok () w := key_check_at e k w 9998
def EntOk (es : Array MapEntry) (L : List (Key × Line)) : Prop := es.toList.map (fun e => (e.key, e.val)) = L.map fun x => (x.1.val, x.2.val)
def look (k : Key) : List (Key × Line) → Nat → Option (Nat × Line)
 | [], _ => none
 | x :: L, i => if k = x.1 then some (i, x.2) else look k L (i + 1)
theorem findAsking_run (k : Key) (w : World) : ∀ (l : List MapEntry) (L : List (Key × Line)) (i : Nat), l.map (fun e => (e.key, e.val)) = L.map (fun x => (x.1.val, x.2.val)) →
  (Instr.findAsking 187 k.val l i).run Tryz.prog w = .ok ((look k L i).map fun x => (x.1, x.2.val)) w
 | [], [], i, _ => rfl
 | [], x :: L, i, h => by cases h
 | e :: l, [], i, h => by cases h
 | e :: l, x :: L, i, h => by
  simp only [List.map_cons, List.cons.injEq, Prod.mk.injEq] at h
  unfold Instr.findAsking look
  rw [Sem.run_bind, h.1.1, key_equal]
  simp only [Result.andThen_ok]
  by_cases hk : k = x.1
  ·simp [hk, h.1.2]
  ·simp only [hk, decide_false, Bool.false_eq_true, if_false]
   exact findAsking_run k w l L (i + 1) h.2
theorem findKey_run (k : Key) (w : World) (l : List MapEntry) (L : List (Key × Line)) (h : l.map (fun e => (e.key, e.val)) = L.map (fun x => (x.1.val, x.2.val))) :
  (Instr.findKey 187 k.val l).run Tryz.prog w = .ok ((look k L 0).map fun x => (x.1, x.2.val)) w := by
 unfold Instr.findKey
 rw [Sem.run_bind, run_underlying Tryz.underlying187]
 simp only [Result.andThen_ok]
 cases l with
 | nil =>
  cases L with
  | nil => rfl
  | cons x L => cases h
 | cons e l =>
  split
  ·rename_i r hr
   simp [Instr.findNow, Instr.sameNow] at hr
  ·exact findAsking_run k w (e :: l) L 0 h
theorem lookup_run (k : Key) (w : World) (mb : Nat) (es : Array MapEntry) (clock : Nat) (L : List (Key × Line)) (hb : w.heap[mb]? = some (.map es clock)) (h : EntOk es L) :
  (Instr.lookup 177 (.map (some mb)) k.val true).run Tryz.prog w =
   .ok (.tuple #[(match look k L 0 with | some x => x.2 | none => ⟨0, false, false, false, false, 0⟩ : Line).val, .bool (look k L 0).isSome]) w := by
 unfold Instr.lookup
 rw [Sem.run_bind, run_underlying Tryz.underlying177]
 simp only [Result.andThen_ok, Sem.run_bind, getObj_at hb, Sem.run_pure, key_check, findKey_run k w es.toList L h]
 cases hl : look k L 0 with
 | none => simp [Line.val, go_sem]
 | some x => simp
theorem EntOk.push {es : Array MapEntry} {L : List (Key × Line)} (h : EntOk es L) (k : Key) (x : Line) (c : Nat) : EntOk (es.push { key := k.val, val := x.val, born := c }) (L ++ [(k, x)]) := by
 unfold EntOk at h ⊢
 simp [h]
theorem EntOk.set {es : Array MapEntry} {L : List (Key × Line)} (h : EntOk es L) (k : Key) (x : Line) (i : Nat) : EntOk (es.modify i fun e => { e with key := k.val, val := x.val }) (L.set i (k, x)) := by
 unfold EntOk at h ⊢
 rw [List.map_set, ← h, Array.toList_modify]
 apply List.ext_getElem?
 intro j
 simp only [List.getElem?_map, List.getElem?_modify, List.getElem?_set]
 by_cases hij : i = j
 ·subst hij
  by_cases hi : i < es.toList.length
  ·have hi2 : i < es.size := by simpa using hi
   simp [hi2]
  ·simp only [List.getElem?_eq_none (Nat.le_of_not_lt hi)]; simp; simpa using hi
 ·simp [hij]
theorem EntOk.erase {es : Array MapEntry} {L : List (Key × Line)} (h : EntOk es L) (i : Nat) : EntOk (es.eraseIdxIfInBounds i) (L.eraseIdx i) := by
 unfold EntOk at h ⊢
 rw [ChangeMaps.map_eraseIdx, ← h, ← ChangeMaps.map_eraseIdx]
 congr 1
 simp [Array.eraseIdxIfInBounds]
 split
 ·simp
 ·rename_i h; rw [List.eraseIdx_of_length_le (by simpa using h)]
theorem look_some {k : Key} : ∀ {L : List (Key × Line)} {i j : Nat} {x : Line}, look k L i = some (j, x) → i ≤ j ∧ L[j - i]? = some (k, x) ∧ (L.take (j - i)).all (fun y => y.1 ≠ k) = true
 | [], _, _, _, h => by cases h
 | y :: L, i, j, x, h => by
  unfold look at h
  split at h
  ·rename_i hk
   obtain ⟨rfl, rfl⟩ := Prod.mk.inj (Option.some.inj h)
   refine ⟨Nat.le_refl _, ?_, ?_⟩ <;> simp [hk]
  ·rename_i hk
   obtain ⟨h1, h2, h3⟩ := look_some h
   have : j - i = (j - (i + 1)) + 1 := by omega
   refine ⟨by omega, ?_, ?_⟩
   ·rw [this]; simpa using h2
   ·rw [this]; simp only [List.take_succ_cons, List.all_cons, h3, Bool.and_true, decide_eq_true_eq]; exact fun h => hk h.symm
theorem look_none {k : Key} : ∀ {L : List (Key × Line)} {i : Nat}, look k L i = none → ∀ y ∈ L, y.1 ≠ k
 | [], _, _, y, hy => by cases hy
 | x :: L, i, h, y, hy => by
  unfold look at h
  split at h
  ·cases h
  ·rename_i hk
   rcases List.mem_cons.1 hy with rfl | hy
   ·exact fun h => hk h.symm
   ·exact look_none h y hy
def putL (k : Key) (x : Line) (L : List (Key × Line)) : List (Key × Line) :=
 match look k L 0 with
 | some (i, _) => L.set i (k, x)
 | none => L ++ [(k, x)]
def delL (k : Key) (L : List (Key × Line)) : List (Key × Line) :=
 match look k L 0 with
 | some (i, _) => L.eraseIdx i
 | none => L
theorem same_key (k : Key) (n : Nat) : Instr.sameBits (n + 1 + 1) k.val k.val = true := by
 simp [Key.val, Instr.sameBits]
theorem mapUpdate_run (k : Key) (x : Line) (w : World) (mb : Nat) (es : Array MapEntry) (clock : Nat) (L : List (Key × Line)) (hb : w.heap[mb]? = some (.map es clock)) (h : EntOk es L) :
  ∃ es' c', (Instr.mapUpdate 177 (.map (some mb)) k.val x.val).run Tryz.prog w = .ok () (putBlk w mb (.map es' c')) ∧ EntOk es' (putL k x L) := by
 unfold Instr.mapUpdate putL
 rw [Sem.run_bind, run_underlying Tryz.underlying177]
 simp only [Result.andThen_ok, Sem.run_bind, getObj_at hb, Sem.run_pure, key_check, findKey_run k w es.toList L h]
 cases hl : look k L 0 with
 | none => exact ⟨_, _, setObj_at _ hb, h.push k x clock⟩
 | some y =>
  obtain ⟨j, y⟩ := y
  have hj := (look_some hl).2.1
  have hkey : ((es[j]?).map (·.key)).getD k.val = k.val := by
   have h2 : (es.toList.map (fun e => (e.key, e.val)))[j]? = (L.map fun x => (x.1.val, x.2.val))[j]? := by rw [h]
   simp only [List.getElem?_map] at h2
   simp only [Nat.sub_zero] at hj
   rw [hj] at h2
   cases he : es[j]? with
   | none => rfl
   | some e =>
    rw [Array.getElem?_toList, he] at h2
    simp only [Option.map_some, Option.some.injEq, Prod.mk.injEq] at h2
    simpa using h2.1
  refine ⟨es.modify j fun e => { e with key := k.val, val := x.val }, clock, ?_, h.set k x j⟩
  simp only [Option.map_some, hkey, Sem.run_bind, Instr.keyThatStays, same_key k 9998, if_true, Sem.run_pure, Result.andThen_ok]
  exact setObj_at _ hb
theorem delete_run (k : Key) (w : World) (mb : Nat) (es : Array MapEntry) (clock : Nat) (L : List (Key × Line)) (hb : w.heap[mb]? = some (.map es clock)) (h : EntOk es L) :
  ∃ es', (∀ ty t2 : TypeId, (Builtin.delete_ #[177, t2] ty #[.map (some mb), k.val]).run Tryz.prog w = .ok (.tuple #[]) (putBlk w mb (.map es' clock))) ∧ EntOk es' (delL k L) := by
 unfold Builtin.delete_ delL
 simp only [List.getElem?_toArray, List.getElem?_cons_zero, List.getElem?_cons_succ]
 rw [Sem.run_bind, run_underlying Tryz.underlying177]
 simp only [Result.andThen_ok, Sem.run_bind, getObj_at hb, Sem.run_pure, key_check, findKey_run k w es.toList L h]
 cases hl : look k L 0 with
 | none => exact ⟨es, by simp [setObj_at _ hb], h⟩
 | some y => exact ⟨_, by simp [setObj_at _ hb], h.erase y.1⟩
end Go.Proofs.YtkfonacokamfiaaGreat
/- Caches: slices.Index, slices.Clone of keys. -/
namespace Go.Proofs.YtkfonacokamfiaaGreat
set_option linter.unusedVariables false
set_option linter.unusedSimpArgs false
open Go.RowKit
attribute [local go_sem] wext_cell wext_frozen wext_heap alloc_cell alloc_frozen alloc_heap setCell_cell objCell_cells objFrozen_cells
def Key.cells (k : Key) : List Value := [.int .i64 k.p, .int .i64 k.l, .int .u64 k.t]
def rowK (ks : List Key) : List Value := ks.flatMap Key.cells
def kAt (ks : List Key) (i : Nat) : Key := ks.getD i default
theorem rowK_length (ks : List Key) : (rowK ks).length = ks.length * 3 := by
 induction ks with
 | nil => rfl
 | cons k ks ih => simp only [rowK, List.flatMap_cons, List.length_append, List.length_cons] at *; simp only [Key.cells, List.length_cons, List.length_nil]; omega
theorem rowK_get : ∀ (ks : List Key) (i : Nat), i < ks.length → (rowK ks)[i * 3]? = some (.int .i64 (kAt ks i).p) ∧ (rowK ks)[i * 3 + 1]? = some (.int .i64 (kAt ks i).l) ∧ (rowK ks)[i * 3 + 2]? = some (.int .u64 (kAt ks i).t)
 | [], i, h => by simp at h
 | k :: ks, 0, h => by simp [rowK, Key.cells, kAt]
 | k :: ks, i + 1, h => by
  have h2 : i < ks.length := by simpa using h
  obtain ⟨a, b, c⟩ := rowK_get ks i h2
  have e : ∀ j, (rowK (k :: ks))[j + 3]? = (rowK ks)[j]? := fun j => by simp [rowK, Key.cells]
  have e2 : kAt (k :: ks) (i + 1) = kAt ks i := by simp [kAt]
  rw [e2]
  refine ⟨?_, ?_, ?_⟩
  ·rw [show (i + 1) * 3 = i * 3 + 3 by omega, e]; exact a
  ·rw [show (i + 1) * 3 + 1 = (i * 3 + 1) + 3 by omega, e]; exact b
  ·rw [show (i + 1) * 3 + 2 = (i * 3 + 2) + 3 by omega, e]; exact c
theorem rowK_take (ks : List Key) (i : Nat) : rowK (ks.take i) = (rowK ks).take (i * 3) := by
 induction ks generalizing i with
 | nil => simp [rowK]
 | cons k ks ih =>
  cases i with
  | zero => simp [rowK]
  | succ i =>
   have := ih i
   rw [show (i + 1) * 3 = i * 3 + 3 by omega]
   simp only [List.take_succ_cons, rowK, List.flatMap_cons] at *
   rw [this]; simp [Key.cells]
theorem rowK_drop (ks : List Key) (i : Nat) : rowK (ks.drop i) = (rowK ks).drop (i * 3) := by
 induction ks generalizing i with
 | nil => simp [rowK]
 | cons k ks ih =>
  cases i with
  | zero => simp [rowK]
  | succ i =>
   have := ih i
   rw [show (i + 1) * 3 = i * 3 + 3 by omega]
   simp only [List.drop_succ_cons, rowK, List.flatMap_cons] at *
   rw [this]; simp [Key.cells]
theorem rowK_append (a b : List Key) : rowK (a ++ b) = rowK a ++ rowK b := by simp [rowK]
theorem rowK_one (a : List Key) : ∀ u ∈ rowK a, u.oneCell' = true := by
 intro u hu
 obtain ⟨k, _, hk⟩ := List.mem_flatMap.1 hu
 simp [Key.cells] at hk
 rcases hk with rfl | rfl | rfl <;> rfl
def keyB (k k' : Key) : Bool := decide (k = k')
theorem key_eql (p l t p' l' t' : Int) (w : World) : (binOp .eql 187 (.agg #[.int .i64 p, .int .i64 l, .int .u64 t]) (.agg #[.int .i64 p', .int .i64 l', .int .u64 t'])).run Tryz.prog w = .ok (.bool (keyB ⟨p, l, t⟩ ⟨p', l', t'⟩)) w := by
 have := key_equal ⟨p, l, t⟩ ⟨p', l', t'⟩ w
 rw [run_eql_struct]
 show ((Op.equal _ _ _).run _ _).andThen _ = _
 simp only [Key.val] at this
 rw [this]; rfl
attribute [local go_sem high] key_eql
def ixK (k : Key) : List Key → Int → Int
 | [], _ => -1
 | x :: ks, i => if k = x then i else ixK k ks (i + 1)
theorem ixK_drop (k : Key) (ks : List Key) (i : Nat) (h : i < ks.length) : ixK k (ks.drop i) i = if keyB k (kAt ks i) = true then (i : Int) else ixK k (ks.drop (i + 1)) ((i + 1 : Nat) : Int) := by
 have : ks.drop i = kAt ks i :: ks.drop (i + 1) := by
  rw [List.drop_eq_getElem_cons h]; simp [kAt, List.getD, h]
 rw [this, ixK]
 simp [keyB]
theorem keyRow : RowT Tryz.prog 178 187 3 24 := RowT.of (z := .agg #[.int .i64 0, .int .i64 0, .int .u64 0]) Tryz.underlying178 (by kernel_rfl) rfl
def EndKeys (w : World) (ks : List Key) (e : Ending) (w' : World) : Prop :=
 ∃ v', e = .returned v' ∧ Owns w' 187 3 v' ks.length (rowK ks) ∧ Ext w w' ∧ ∀ g, v'.ownBlock = some g → w.heap.size ≤ g
end Go.Proofs.YtkfonacokamfiaaGreat
