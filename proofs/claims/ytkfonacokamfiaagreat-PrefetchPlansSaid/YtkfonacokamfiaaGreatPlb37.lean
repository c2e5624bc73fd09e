/- Joined texts, part 37 of what the law stands on: each as its own head says. -/
import Derived.Test.YtkfonacokamfiaaGreatPlb36
import Derived.Test.YtkfonacokamfiaaGreatPlb2
import Derived.Test.YtkfonacokamfiaaGreatPlb23
/- prefetch.Plan itself. Own text. -/
namespace Go.Proofs.YtkfonacokamfiaaGreat
set_option linter.unusedVariables false
set_option linter.unusedSimpArgs false
open Go.RowKit
attribute [local go_sem] wext_cell wext_frozen wext_heap alloc_cell alloc_frozen alloc_heap setCell_cell objCell_cells objFrozen_cells
open Go.Shelf
attribute [local go_sem] Oper.semAt_some

def rowB (a : Int) (k : Nat) : List Value := (List.range k).map fun j => .int .u64 (itB a (j + 1))
theorem rowB_succ (a : Int) (k : Nat) : rowB a (k + 1) = rowB a k ++ [.int .u64 (behindI (itB a k))] := by simp [rowB, List.range_succ, itB]
theorem rowB_len (a : Int) (k : Nat) : (rowB a k).length = k := by simp [rowB]

theorem ownsRow_ne {W : World} {base : Nat} {e : TypeId} {size : Nat} {v : Value} {k : Nat} {xs : List Value} (h : W.ownsRow base e size v k xs) {B : Nat} (hB : B < base) : some B ≠ v.ownBlock := by
  rcases h.2 with ⟨rfl, _⟩ | ⟨g, cap, cur, rfl, hg, _⟩
  · simp [Value.ownBlock]
  · intro e'
    obtain rfl : B = g := by simpa [Value.ownBlock] using e'
    omega
theorem Ext.grown {W W' : World} (h : Ext W W') : W.grownBy W' none := ⟨h.os, h.tape, h.output, h.size, fun k hk _ => h.block k hk⟩

/-- Between two rounds: n: the heap's size when Plan began. -/
def PlSt (w : World) (n : Nat) (many a : Int) (k : Nat) (lo : Loop) (W : World) : Prop :=
  Boxed W n 3 (.int .i64 many) ∧ (∃ v, Boxed W (n + 1) 39 v ∧ W.ownsRow (n + 5) 23 1 v k (rowB a k)) ∧
  W.heap[n + 4]? = some (.loop lo) ∧ W.heap[n + 3]? = some (.deferred (some [])) ∧ Below n w W
theorem PlSt.grown {w : World} {n : Nat} {many a : Int} {k : Nat} {lo : Loop} {W W' : World} (h : PlSt w n many a k lo W) {r : Option Nat} (hg : W.grownBy W' r) (hr : ∀ b, r = some b → b = n + 2 ∨ W.heap.size ≤ b) : PlSt w n many a k lo W' := by
  obtain ⟨h1, ⟨v, h2, h3⟩, h4, h5, h6⟩ := h
  have l1 := h1.lt
  have l2 := h2.lt
  have l4 := (Array.getElem?_eq_some_iff.1 h4).1
  have ne : ∀ b, b < W.heap.size → b ≠ n + 2 → some b ≠ r := fun b hb h2 e => by have := hr b e.symm; omega
  refine ⟨h1.kept hg (ne _ l1 (by omega)), ⟨v, h2.kept hg (ne _ l2 (by omega)), h3.kept hg ?_⟩, (hg.block _ l4 (ne _ l4 (by omega))).trans h4, (hg.block _ (by omega) (ne _ (by omega) (by omega))).trans h5, h6.grown hg (by omega) fun b hb => by have := hr b hb; omega⟩
  rcases h3.2 with ⟨rfl, _⟩ | ⟨g, cap, cur, rfl, hg', hgb, _⟩
  · exact .inl rfl
  · exact .inr fun e => ne g (Array.getElem?_eq_some_iff.1 hgb).1 (by omega) (by rw [← e]; rfl)
theorem PlSt.put {w : World} {n : Nat} {many a : Int} {k : Nat} {lo : Loop} {W : World} (h : PlSt w n many a k lo W) (lo' : Loop) : PlSt w n many a k lo' (W.putObj (n + 4) (.loop lo')) := by
  obtain ⟨h1, ⟨v, h2, h3⟩, h4, h5, h6⟩ := h
  have l4 := (Array.getElem?_eq_some_iff.1 h4).1
  exact ⟨(World.putObj_heap_other (by omega)).trans h1, ⟨v, (World.putObj_heap_other (by omega)).trans h2, ownsRow_putObj h3 _ h4 rfl⟩, World.putObj_heap_same l4, (World.putObj_heap_other (by omega)).trans h5,
    h6.grown (grownBy_putObj' W (n + 4) _) (by omega) fun b e => by cases e; omega⟩

theorem info8 : (Tryz.prog.info? 23).map (fun i => (i.zero, i.size, i.bytes)) = some (some (.int .u64 0), 1, 8) := by kernel_rfl

theorem wpIn_gen {F : Fence} {n : Nat} {P : Program} {c : Code} {Q : Exit → Act → World → Prop} {a : Act} {w : World} (h : ∀ W, W = w → Code.wpIn F n P c Q a W) : Code.wpIn F n P c Q a w := h w rfl
theorem Owns.of_row {W : World} {base : Nat} {e : TypeId} {size : Nat} {v : Value} {n : Nat} {xs : List Value} (h : W.ownsRow base e size v n xs) : Owns W e size v n xs := by
  refine ⟨h.1, ?_⟩
  rcases h.2 with h | ⟨g, cap, cur, h1, h2, h3, h4, h5, h6, h7⟩
  · exact .inl h
  · exact .inr ⟨g, cap, cur, h1, h3, h4, h5, Nat.le_of_eq h6.symm, h7⟩

def busyL (lo : Loop) : Loop := { lo with state := .busy }
def doneL (lo : Loop) : Loop := { lo with state := .done, pending := some (.exit 0) }
def overL (lo : Loop) : Loop := { lo with state := .exhausted }
/-- An outermost loop over a function. -/
theorem rangeFunc_outer {F : Fence} {n : Nat} {P : Program} {g : Operand} {ps : Array Tmp} {assign body : Code} {Q : Exit → Act → World → Prop} {a : Act} {w : World} {gf : Nat} {lb : Array Value}
    (hro : F.round = none) (h1 : 1 ≤ n) (hFg : F.fn gf)
    (hg : a.eval g = .func (.func gf) #[] lb) (eg : ∀ args w, (callFunc gf args).run P w = .ok (.enter gf args) w)
    (h : ∀ fn (lo : Loop), lo = { state := .ready, pending := none, fn, tmps := a.tmps, params := ps, assign, body, defers := w.heap.size } → F.fn fn →
      CallsIn F (n - 1) P gf (#[.func (.yield (w.heap.size + 1)) #[] #[]] ++ lb) ((w.alloc (.deferred (some []))).alloc (.loop lo))
        (rangePost F n P (w.heap.size + 1) Q { a with defers := [{ target := .collected w.heap.size, args := #[] }] ++ a.defers })) :
    (Code.rangeFunc g ps assign body).wpIn F n P Q a w := by
  refine wpIn_rangeFunc ?_
  intro fn hfn
  rw [hro]
  obtain ⟨lo, hlo⟩ : ∃ lo : Loop, lo = { state := .ready, pending := none, fn, tmps := a.tmps, params := ps, assign, body, defers := w.heap.size } := ⟨_, rfl⟩
  have hh := h fn lo hlo hfn
  obtain ⟨W1, hW1⟩ : ∃ W1, (w.alloc (.deferred (some []))).alloc (.loop lo) = W1 := ⟨_, rfl⟩
  rw [hW1] at hh
  refine ⟨w.heap.size + 1, [{ target := .collected w.heap.size, args := #[] }], W1, { target := .fn (.func gf) lb, args := #[.func (.yield (w.heap.size + 1)) #[] #[]] }, W1, gf,
    #[.func (.yield (w.heap.size + 1)) #[] #[]] ++ lb, W1, ?_, ?_, ?_, ?_, fun _ => h1, ?_⟩
  · rw [← hW1, hlo]; exact run_enterLoop_outer _ _ _ _ _
  · simp only [resolve, hg]
    simp [go_sem]
  · intro f' hf'; simp [Target.leads] at hf'; subst hf'; exact hFg
  · simp [invoke, go_sem, eg]
  · exact hh
theorem yieldAt_of {F : Fence} {n : Nat} {P : Program} {l : Nat} {fn : FuncId} {tmps args : Array Value} {ps : Array Tmp} {assign body : Code} {D : Nat} {lo : Loop} {W : World} {R : Ending → World → Prop}
    {a₁ : Act} (hlo : lo = { state := .ready, pending := none, fn, tmps, params := ps, assign, body, defers := D }) (hl : W.heap[l]? = some (.loop lo)) (hs : args.size = ps.size)
    (hfn : F.fn fn)
    (hassign : ∀ K : Act → World → Prop, K a₁ W → assign.wpIn (F.inRound l) n P (Exit.then K (fun _ _ _ => False))
      { tmps := (ps.zip args).foldl (fun t (p, v) => t.setIfInBounds p v) tmps, defers := [] } W)
    (hbody : body.wpIn (F.inRound l) n P (roundPost P l R) a₁ (W.putObj l (.loop (busyL lo)))) :
    YieldAt F n P l args W R := by
  have hy := run_yield (P := P) (args := args) hl (by rw [hlo]; exact hs)
  have hb := run_beginRound (P := P) hl (by rw [hlo])
  rw [hlo] at hy
  exact ⟨fn, _, assign, body, hy, roundIn_of_wpIn hfn (hassign _ ⟨_, hb, hbody⟩)⟩

def EndPlan (a : Int) (m : Nat) (w : World) (e : Ending) (w' : World) : Prop :=
  ∃ v k, e = .returned v ∧ Owns w' 23 1 v k (rowB a k) ∧ k ≤ m ∧ (∀ j, j < k → nextB (itB a j) = true) ∧ (k = m ∨ nextB (itB a k) = false) ∧ Ext w w'
set_option maxRecDepth 100000 in
set_option maxHeartbeats 4000000 in
theorem plan_c (a many : Int) (w : World) (ha0 : 0 ≤ a) (ha1 : a ≤ 18446744073709551615) (hm0 : -9223372036854775808 ≤ many) (hm1 : many ≤ 9223372036854775807) :
    Calls Tryz.prog 10 #[.int .u64 a, .int .i64 many] w (EndPlan a (min many 8).toNat w) := by
  refine (callsIn_wide (n := 3)).1 ?_
  obtain ⟨m, hm⟩ : ∃ m, m = (min many 8).toNat := ⟨_, rfl⟩
  rw [← hm]
  have hm8 : m ≤ 8 := by omega
  refine callsIn_of_wp_marks Tryz.func10 rfl trivial ?_ rfl
  simp only [Tryz.ntmps10, List.size_toArray, List.length_cons, List.length_nil, Nat.reduceAdd, Nat.reduceSub, Array.replicate_succ, Array.replicate_zero, List.push_toArray, List.append_toArray, List.nil_append, List.cons_append]
  gi_wp2_with (refine ⟨trivial, ?_⟩; gi_at_call 27; refine (callsIn_wide.2 (behind_c a _)).mono ?_; rintro e w' ⟨rfl, rfl⟩)
  refine wpIn_gen ?_
  intro W0 hW0
  obtain ⟨n, hn⟩ : ∃ n, n = w.heap.size := ⟨_, rfl⟩
  rw [← hn]
  have hs : W0.heap.size = n + 3 := by rw [hW0, hn]; simp
  have b1 : Boxed W0 n 3 (.int .i64 many) := by rw [hW0, hn]; exact ((Boxed.new _ _ _).alloc _).alloc _
  have b2 : Boxed W0 (n + 1) 39 (.slice none 0 0) := by
    rw [hW0, hn]
    have := (Boxed.new (w.alloc (.cells #[.int .i64 many] 3)) 39 (.slice none 0 0)).alloc (.cells #[.int .u64 a] 23)
    rwa [World.size_alloc] at this
  have b3 : Boxed W0 (n + 2) 23 (.int .u64 a) := by
    rw [hW0, hn]
    have := Boxed.new ((w.alloc (.cells #[.int .i64 many] 3)).alloc (.cells #[.slice none 0 0] 39)) 23 (.int .u64 a)
    rwa [World.size_alloc, World.size_alloc] at this
  have hbel : Below n w W0 := by rw [hW0, hn]; exact (((Below.refl _ w).alloc (by omega) _).alloc (by simp) _).alloc (by simp; omega) _
  clear hW0
  have HNN := Lib.hid hn
  have HM := Lib.hid hm
  clear hn hm
  refine rangeFunc_outer rfl (by omega) (gf := 54) (lb := #[.pointer (some ⟨n + 2, 0, none⟩)]) trivial rfl (enters_of Tryz.func54 (by kernel_rfl) rfl) ?_
  intro fn lo hlo _
  rw [hs] at hlo ⊢
  have HL := Lib.hid hlo
  clear hlo
  have hP0 : PlSt w n many a 0 lo ((W0.alloc (.deferred (some []))).alloc (.loop lo)) := by
    have hs1 : (W0.alloc (.deferred (some []))).heap.size = n + 4 := by simp [hs]
    refine ⟨(b1.alloc _).alloc _, ⟨_, (b2.alloc _).alloc _, World.ownsRow_nil ..⟩, ?_, ?_, (hbel.alloc (by omega) _).alloc (by omega) _⟩
    · have := World.alloc_heap_new (W0.alloc (.deferred (some []))) (.loop lo)
      rwa [hs1] at this
    · have := World.alloc_heap_new W0 (.deferred (some []))
      rw [hs] at this
      exact (Below.heap_alloc _ _ _ (by omega)).trans this
  refine (behind1_c _ (n + 4) (n + 2) a ha0 ha1 (fun k c W => PlSt w n many a k lo W ∧ Boxed W (n + 2) 23 (.int .u64 c) ∧ k ≤ m)
    (fun k W => PlSt w n many a k (doneL lo) W ∧ k = m) (by omega) ?_ ?_ ?_ ?_ _ ⟨hP0, (b3.alloc _).alloc _, by omega⟩).mono ?_
  · rintro k c W W' ⟨h1, h2, h3⟩ hE
    exact ⟨h1.grown hE.grown (fun b e => by cases e), h2.kept hE.grown (by simp), h3⟩
  · rintro k c c' W ⟨h1, h2, h3⟩
    exact ⟨h1.grown (grownBy_setCell' W (n + 2) _) (fun b e => by cases e; exact .inl rfl), h2.set _, h3⟩
  · rintro k c W ⟨h1, h2, h3⟩
    exact h2
  · rintro k W ⟨hP, hB, hk⟩
    apply yieldAt_of HL.out hP.2.2.1 rfl trivial
    case hassign =>
      intro K hK
      gi_wp2
      exact hK
    have hB2 : Boxed (W.putObj (n + 4) (.loop (busyL lo))) (n + 2) 23 (.int .u64 (itB a k)) := (World.putObj_heap_other (by omega)).trans hB
    have hP2 := hP.put (busyL lo)
    clear hP hB
    generalize W.putObj (n + 4) (.loop (busyL lo)) = W2 at *
    have hPK := Lib.hid hP2
    obtain ⟨h1, ⟨v, h2, h3⟩, h4, h5, h6⟩ := hP2
    obtain ⟨p, cap, rfl⟩ : ∃ p cap, v = .slice p k cap := by rcases h3.2 with ⟨rfl, rfl⟩ | ⟨g, cap, _, rfl, _⟩ <;> exact ⟨_, _, rfl⟩
    have c1 := h1.cell
    have f1 := h1.frozen
    have c2 := h2.cell
    have f2 := h2.frozen
    have l4 := (Array.getElem?_eq_some_iff.1 h4).1
    by_cases hkm : k = m
    · have ht : (k : Int) ≥ min many 8 := by have := HM.out; omega
      have HKM := Lib.hid hkm
      clear hkm
      gi_wp2
      all_goals exact ⟨_, _, run_endRound (some (.exit 0)) h4, .inr ⟨rfl, hPK.out.put _, HKM.out⟩⟩
    · have ht : ¬ (k : Int) ≥ min many 8 := by have := HM.out; omega
      obtain ⟨i0, hi, hz0, hz1, hz2⟩ := info_parts info8
      have HKM := Lib.hid hkm
      clear hkm
      gi_wp2_with (gi_at_builtin; refine wpListIn_append_own _ rfl _ _ 39 rfl (n + 5) 23 i0 (.int .u64 0) 1 8 Tryz.underlying39 hi hz0 hz1 hz2 rfl (by decide) _ _ _ rfl (h3.alloc _) ⟨W2.heap.size, 0, none⟩ 1 1 [.int .u64 (behindI (itB a k))] rfl rfl (cell_one_new _ _ _) (by simp [Value.oneCell']) (by simp [maxLen]; omega) (by omega) (by simp; omega) ?_; intro v' w1 hown' hgrow _; obtain ⟨g', cap', rfl⟩ := ownsRow_succ hown'; have hv1 := (h2.alloc _).kept hgrow (ownsRow_ne h3 (by omega)); have hc1 := hv1.cell; have hf1 := hv1.frozen)
      all_goals
        have hPS : PlSt w n many a (k + 1) (busyL lo) (w1.setCell ⟨n + 1, 0, none⟩ (.slice (some ⟨g', 0, none⟩) (k + 1) cap')) := by
          have hgs := hgrow.size
          simp only [World.size_alloc] at hgs
          have hset := grownBy_setCell' w1 (n + 1) (.slice (some ⟨g', 0, none⟩) (k + 1) cap')
          have hb : ∀ b, b < n + 5 → b ≠ n + 1 → b < W2.heap.size → (w1.setCell ⟨n + 1, 0, none⟩ (.slice (some ⟨g', 0, none⟩) (k + 1) cap')).heap[b]? = W2.heap[b]? := fun b hb hb1 hb2 =>
            (hset.block b (by omega) (fun e => hb1 (by cases e; rfl))).trans ((hgrow.block b (by simp; omega) (ownsRow_ne h3 hb)).trans (Below.heap_alloc _ _ _ hb2))
          refine ⟨(hb n (by omega) (by omega) (by omega)).trans h1, ⟨_, hv1.set _, ?_⟩, (hb _ (by omega) (by omega) (by omega)).trans h4, (hb _ (by omega) (by omega) (by omega)).trans h5, ?_⟩
          · rw [rowB_succ]
            exact hown'.kept hset (.inr (ownsRow_ne hown' (by omega)).symm)
          · refine ((h6.alloc (by omega) _).grown hgrow (by simp; omega) fun j ej => ?_).setCell (p := ⟨n + 1, 0, none⟩) (by simp) _
            by_cases hj : j < n + 5
            · exact absurd ej.symm (ownsRow_ne h3 hj)
            · omega
        have hBS : Boxed (w1.setCell ⟨n + 1, 0, none⟩ (.slice (some ⟨g', 0, none⟩) (k + 1) cap')) (n + 2) 23 (.int .u64 (itB a k)) := by
          exact ((hB2.alloc _).kept hgrow (ownsRow_ne h3 (by omega))).kept (grownBy_setCell' _ _ _) (by simp)
        have hER : (Instr.endRound (n + 4) none).run Tryz.prog (w1.setCell ⟨n + 1, 0, none⟩ (.slice (some ⟨g', 0, none⟩) (k + 1) cap')) = .ok (.bool true) ((w1.setCell ⟨n + 1, 0, none⟩ (.slice (some ⟨g', 0, none⟩) (k + 1) cap')).putObj (n + 4) (.loop lo)) := by
          have := run_endRound (P := Tryz.prog) none hPS.2.2.1
          rw [HL.out] at this ⊢
          exact this
        exact ⟨_, _, hER, .inl ⟨rfl, hPS.put lo, (World.putObj_heap_other (by omega)).trans hBS, by have := HKM.out; omega⟩⟩
  · rintro e W2 ⟨⟨v, rfl⟩, k, hp, (⟨hnb, hP, hB, hk⟩ | ⟨hP, hk⟩)⟩
    · have hpe : lo.pending = none := by rw [HL.out]
      have hE : (Instr.endLoop (n + 4)).run Tryz.prog W2 = .ok none (W2.putObj (n + 4) (.loop (overL lo))) :=
        (run_endLoop (P := Tryz.prog) hP.2.2.1 (by rw [HL.out]; exact fun h => by cases h)).trans (show Result.ok lo.pending (W2.putObj (n + 4) (.loop (overL lo))) = _ by rw [hpe])
      refine ⟨none, _, hE, ?_⟩
      have hP3 := hP.put (overL lo)
      clear hP hB hE
      generalize hW3 : W2.putObj _ _ = W3 at *
      obtain ⟨h1, ⟨v, h2, h3⟩, h4, h5, h6⟩ := hP3
      have c2 := h2.cell
      have f2 := h2.frozen
      gi_wp2
      refine ⟨by simp, .inl ⟨_, _, rfl, run_takeDeferred h5, ?_⟩⟩
      exact ⟨_, results_tmp rfl _ _ _, _, k, rfl, Owns.of_row (ownsRow_putObj h3 _ h5 rfl), hk, hp, .inr hnb, by
        unfold Ext; rw [← HNN.out]; exact h6.grown (grownBy_putObj' _ _ _) (by have := h2.lt; omega) fun b e => by cases e; omega⟩
    · have hE : (Instr.endLoop (n + 4)).run Tryz.prog W2 = .ok (some (.exit 0)) (W2.putObj (n + 4) (.loop (overL (doneL lo)))) :=
        run_endLoop (P := Tryz.prog) hP.2.2.1 (by exact fun h => by cases h)
      refine ⟨some (.exit 0), _, hE, ?_⟩
      have hP3 := hP.put (overL (doneL lo))
      dsimp only at hP3 ⊢
      clear hP hE
      generalize hW3 : W2.putObj _ _ = W3 at *
      obtain ⟨h1, ⟨v, h2, h3⟩, h4, h5, h6⟩ := hP3
      have c2 := h2.cell
      have f2 := h2.frozen
      gi_wp2
      refine ⟨by simp, .inl ⟨_, _, rfl, run_takeDeferred h5, ?_⟩⟩
      exact ⟨_, results_tmp rfl _ _ _, _, k, rfl, Owns.of_row (ownsRow_putObj h3 _ h5 rfl), by omega, hp, .inl hk, by
        unfold Ext; rw [← HNN.out]; exact h6.grown (grownBy_putObj' _ _ _) (by have := h2.lt; omega) fun b e => by cases e; omega⟩
end Go.Proofs.YtkfonacokamfiaaGreat
/- The laws' helper: a memory with some words written. -/
namespace Go.Proofs.YtkfonacokamfiaaGreat
set_option linter.unusedVariables false
set_option linter.unusedSimpArgs false
open Go.RowKit
attribute [local go_sem] wext_cell wext_frozen wext_heap alloc_cell alloc_frozen alloc_heap setCell_cell objCell_cells objFrozen_cells

set_option maxHeartbeats 2000000 in
set_option maxRecDepth 20000 in
theorem built15_c (v : Value) (ds : List PutD) (w : World) (h : ListAt w v 4 PutD.cells PutD.ok ds) :
    Calls Tryz.prog 6 #[v] w (EndBuilt ds w) := by
  have HD := Lib.hid h
  obtain ⟨a, cap, rfl, hn, hm, hok, -⟩ := h
  unfold maxLen at hm
  have HK := Lib.hid hok
  have HN := Lib.hid (fun w => memNew_c 16 w ⟨by omega, by omega⟩)
  generalize hEnd : EndBuilt ds w = E
  have HEND := Aside.mk hEnd
  clear hEnd hok
  go_enter Tryz.func6, Tryz.ntmps6
  go_upto_region 2 with (first | (go_at_call 19; refine (HN.out _).mono ?_; rintro e w1 ⟨mb, F, rfl, hC, hE, hF⟩))
  have HC := Lib.hid hC
  have HE := Lib.hid hE
  have HF := Lib.hid hF
  clear hC hE hF
  go_wp2
  go_loopw [4] (fun i wr => ∃ (j : Nat) (F' : List Nat), j ≤ ds.length ∧ j ≤ 100 ∧ i = .int .i64 j ∧ Hid (MemAt wr mb F' 16 (builtM (ds.take j)) [] ∧ (∀ x ∈ F', w.heap.size ≤ x) ∧ Ext w wr)) (fun i _ => ds.length - (intOf i).toNat)
  case atStart => exact ⟨0, F, by omega, by omega, rfl, Lib.hid ⟨HC.out, HF.out, HE.out⟩⟩
  case round =>
    obtain ⟨j, F', hj, hj2, rfl, hR⟩ := hrel
    by_cases hlt : j < ds.length
    · by_cases h120 : j < 100
      · obtain ⟨a', cap', he, -, -, -, hcl⟩ := HD.out
        obtain ⟨g, o, e1, e2, e3⟩ := hcl j hlt
        have he' : a = a' := by injection he
        have hstep := builtM_take ds j hlt
        have hdok := HK.out j hlt
        generalize ds.getD j default = d at e3 hstep hdok
        subst he'
        subst e1
        have hsw := hR.out.2.2.size
        have e3w : ∀ i u, d.cells[i]? = some u → wr.cell? ⟨g, o + j * 4 + i, none⟩ = some u := fun i u hu => hR.out.2.2.someCell (e3 i u hu)
        have d0 : wr.cell? ⟨g, o + j * 4, none⟩ = some (.int .u16 d.s) := e3w 0 _ rfl
        have d1 := e3w 1 _ rfl
        have d2 := e3w 2 _ rfl
        have d3 := e3w 3 _ rfl
        have hgr : g < wr.heap.size := by omega
        have HS := Aside.mk hstep
        have HAT := Lib.hid (fun w => at8_c d w hdok)
        have hs := atS_le hdok
        have hx := atX_le hdok
        have HST := Lib.hid (fun w' (k : Ext wr w') => store_c mb F' 16 (builtM (ds.take j)) [] (atS d) (atX d) w' (hR.out.1.ext k) (by omega) (by omega) hx.1 hx.2)
        clear he hcl e3 e3w hstep hs hx
        generalize atS d = s at *
        generalize atX d = x at *
        go_wp2_with (first | (go_at_call 20; refine (HAT.out _).mono ?_; rintro e w2 ⟨rfl, hb2⟩) | (go_at_call 21; refine (HST.out _ (by repeat (first | exact Ext.refl _ | assumption | refine Ext.alloc ?_ _ | refine Ext.drew ?_ | refine Ext.setCell ?_ (by first | (simp; done) | (dsimp only; omega)) _ | refine Ext.trans ?_ (by assumption)))).mono ?_; rintro e w3 ⟨rfl, F3, q1, q2, q3⟩))
        have hFw := hR.out.2.1
        refine ⟨⟨j + 1, F3, by omega, by omega, by go_num, Lib.hid ⟨?_, ?_, ?_⟩⟩, by simp [intOf]; omega⟩
        · rw [HS.out]; exact q1
        · intro y hy
          rcases q3 y hy with k | k
          · exact hFw y k
          · have := hb2.size; omega
        · exact Keeps.to_ext (hR.out.2.2.trans (by repeat (first | exact Ext.refl _ | assumption | refine Ext.alloc ?_ _ | refine Ext.drew ?_ | refine Ext.setCell ?_ (by first | (simp; done) | (dsimp only; omega)) _ | refine Ext.trans ?_ (by assumption)))) q2 hFw
      · obtain rfl : j = 100 := by omega
        go_wp2
        (try go_ret)
        rw [← HEND.out]
        exact ⟨mb, F', rfl, hR.out.1, hR.out.2.2, hR.out.2.1, hR.out.2.1 _ hR.out.1.mem⟩
    · obtain rfl : j = ds.length := by omega
      go_wp2
      (try go_ret)
      rw [← HEND.out]
      refine ⟨mb, F', rfl, ?_, hR.out.2.2, hR.out.2.1, hR.out.2.1 _ hR.out.1.mem⟩
      have := hR.out.1
      rw [List.take_of_length_le (Nat.le_refl _)] at this
      rw [List.take_of_length_le hj2]
      exact this
end Go.Proofs.YtkfonacokamfiaaGreat
/- Prefetch's laws: awake. -/
namespace Go.Proofs.YtkfonacokamfiaaGreat
set_option linter.unusedVariables false
set_option linter.unusedSimpArgs false
open Go.RowKit
attribute [local go_sem] wext_cell wext_frozen wext_heap alloc_cell alloc_frozen alloc_heap setCell_cell objCell_cells objFrozen_cells

def tiny15 : List PutD := [⟨0, 1, 7, 0⟩, ⟨8, 2, 7, 0⟩, ⟨16, 3, 7, 0⟩, ⟨25, 5, 7, 0⟩]
theorem tiny15_at {W : World} {g : Nat} {e : TypeId} (h : W.heap[g]? = some (.cells #[.int .u16 0, .int .u16 1, .int .u8 7, .int .u64 0, .int .u16 8, .int .u16 2, .int .u8 7, .int .u64 0, .int .u16 16, .int .u16 3, .int .u8 7, .int .u64 0, .int .u16 25, .int .u16 5, .int .u8 7, .int .u64 0] e (0, 0))) :
    ListAt W (.slice (some ⟨g, 0, none⟩) 4 4) 4 PutD.cells PutD.ok tiny15 := by
  refine ⟨some ⟨g, 0, none⟩, 4, rfl, by simp [tiny15], by simp [maxLen], fun i hi => ?_, fun i hi => ⟨g, 0, rfl, heap_lt h, fun j u hu => ?_⟩⟩
  · have : i = 0 ∨ i = 1 ∨ i = 2 ∨ i = 3 := by simp [tiny15] at hi; omega
    rcases this with rfl | rfl | rfl | rfl <;> (simp only [tiny15, List.getD_cons_zero, List.getD_cons_succ, PutD.ok]; omega)
  · have : i = 0 ∨ i = 1 ∨ i = 2 ∨ i = 3 := by simp [tiny15] at hi; omega
    have hj : j < 4 := by
      have := (List.getElem?_eq_some_iff.1 hu).1
      simpa [PutD.cells] using this
    have hj4 : j = 0 ∨ j = 1 ∨ j = 2 ∨ j = 3 := by omega
    rcases this with rfl | rfl | rfl | rfl <;> rcases hj4 with rfl | rfl | rfl | rfl <;> (rw [← hu]; exact heap_cell h _)
def who0 : Who := ⟨0, 0, 0, 0, 0, 0, false⟩
theorem who0_ok : who0.ok := by
  refine ⟨by simp [who0], fun l => ?_, by simp [who0], by simp [who0]⟩
  show -9223372036854775808 ≤ pkF 0 0 0 l ∧ pkF 0 0 0 l ≤ 9223372036854775807
  unfold pkF; split; omega; split <;> omega
def opt0 (M : Int → Int) : OSt := ⟨M, [], [], fun _ => []⟩
theorem tiny15_path : (pathF (builtM (tiny15.take 100)) 0 false 4096).length = 4 := by decide +kernel
theorem tiny15_ahead : (aheadF (clampR 2) (clampR 2) who0 (opt0 (builtM (tiny15.take 100))) [4096, 8192]).2 = [4096] := by decide +kernel
theorem plan_ex0 : nextB (itB 140737488347136 0) = true := by decide +kernel
theorem plan_ex1 : nextB (itB 140737488347136 1) = false := by decide +kernel
theorem plan_ex : itB 140737488347136 1 = 140737488351232 := by decide +kernel

theorem planAt_new {w : World} {G : List Nat} (hG : ∀ x ∈ G, x < w.heap.size) {ks : List Int} (hk : ∀ x ∈ ks, 0 ≤ x ∧ x ≤ 18446744073709551615) (hl : ks.length ≤ maxLen) {cap : Nat} :
    PlanAt (w.alloc (.cells (ks.map (.int .u64 ·)).toArray 23)) G (.slice (some ⟨w.heap.size, 0, none⟩) ks.length cap) ks := by
  refine ⟨_, _, rfl, hl, hk, fun j hj => ⟨_, _, rfl, fun hm => by have := hG _ hm; omega, by simp, ?_⟩⟩
  rw [heap_cell (alloc_same ..)]
  simp [List.getD, hj]

set_option maxHeartbeats 2000000 in
set_option maxRecDepth 100000 in
theorem awake15_c (w : World) : Calls Tryz.prog 5 #[] w fun e w' => e = .returned (.bool true) ∧ Ext w w' := by
  go_enter Tryz.func5, Tryz.ntmps5
  go_upto_region 2 with (first | (go_at_call 10; refine (plan_c 140737488347136 3 _ (by omega) (by omega) (by omega) (by omega)).mono ?_; rintro e w1 ⟨pv, k, rfl, hO, hk, hp, hd, hE1⟩))
  have hk1 : k = 1 := by
    rcases Nat.lt_trichotomy k 1 with h | h | h
    · have h0 : k = 0 := by omega
      subst h0
      rcases hd with hd | hd
      · exact absurd hd (by decide)
      · rw [plan_ex0] at hd; cases hd
    · exact h
    · have := hp 1 h; rw [plan_ex1] at this; cases this
  subst hk1
  have hrow : rowB 140737488347136 1 = [.int .u64 140737488351232] := by
    show [Value.int .u64 (itB 140737488347136 1)] = _
    rw [plan_ex]
  rw [hrow] at hO
  obtain ⟨pg, pcap, rfl⟩ : ∃ pg pcap, pv = .slice (some ⟨pg, 0, none⟩) 1 pcap := by
    rcases hO.2 with ⟨_, h0⟩ | ⟨g, cap, cur, rfl, _⟩
    · omega
    · exact ⟨g, cap, rfl⟩
  have P1 := Lib.hid (hO.cells (g := pg) rfl 0 _ rfl)
  have L1 : pg < w1.heap.size := hO.lt pg rfl
  have E1 : Hid (Ext w w1) := Lib.hid hE1
  clear hO hk hp hd hE1 hrow
  go_upto_region 3 with (first | (go_at_call 6; refine (built15_c _ tiny15 _ (tiny15_at (alloc_same ..))).mono ?_; rintro e w2 ⟨mb, Fm, rfl, hC, hE2, hF, hmb⟩))
  obtain ⟨M, hM⟩ : ∃ M, builtM (tiny15.take 100) = M := ⟨_, rfl⟩
  rw [hM] at hC
  have C2 := Lib.hid hC
  have E2 : Hid (Ext w1 w2) := Lib.hid (((Ext.refl w1).alloc _).trans hE2)
  have F2 : Hid (∀ x ∈ Fm, w1.heap.size ≤ x) := Lib.hid fun x hx => by have := hF x hx; simp at this; omega
  have hz2 := E2.out.size
  clear hC hE2 hF hmb
  have HPa := Lib.hid (fun w1 h => path_c mb Fm M [] 0 0 4096 false false false false false false w1 h (by omega) (by omega) (by omega) (by omega))
  have hpl := tiny15_path
  rw [hM] at hpl
  have hah := tiny15_ahead
  rw [hM] at hah
  have HAH := Lib.hid hah
  clear hM hah
  generalize pathF M 0 false 4096 = X at HPa hpl
  have HPL := Lib.hid hpl
  clear hpl
  go_upto_region 6 with (first | (go_at_call 8; refine (HPa.out _ (C2.out.ext (by repeat (first | exact Ext.refl _ | assumption | refine Ext.alloc ?_ _ | refine Ext.drew ?_ | refine Ext.setCell ?_ (by first | (simp; done) | (dsimp only; omega)) _ | refine Ext.trans ?_ (by assumption))))).mono ?_; rintro e w3 ⟨v3, rfl, o3, -, hb3⟩; rw [HPL.out] at o3; obtain ⟨a3, c3, rfl, -, -⟩ := o3.form; clear o3))
  have C3 := Lib.hid (C2.out.ext hb3)
  have E3 := Lib.hid (E2.out.trans hb3)
  have hz3 := hb3.size
  clear hb3
  have HTr := Lib.hid (fun w1 h => trace_c mb Fm 16 M [] w1 h (by simp))
  go_upto_region 7 with (first | (go_at_call 18; refine (HTr.out _ (C3.out.ext (by repeat (first | exact Ext.refl _ | assumption | refine Ext.alloc ?_ _ | refine Ext.drew ?_ | refine Ext.setCell ?_ (by first | (simp; done) | (dsimp only; omega)) _ | refine Ext.trans ?_ (by assumption))))).mono ?_; rintro e w4 ⟨v4, rfl, o4, hb4, -⟩; replace o4 : Owns w4 23 1 v4 0 [] := o4; obtain ⟨a4, c4, rfl, -, -⟩ := o4.form; clear o4))
  have C4 := Lib.hid (C3.out.ext hb4)
  have E4 := Lib.hid (E3.out.trans hb4)
  have hz4 := hb4.size
  clear hb4
  have HNew := Lib.hid (fun w1 h => optNew_c mb Fm M [] 2 2 w1 h (by omega) (by omega) (by omega) (by omega))
  have HAh := Lib.hid (fun tb cb Ft pb pc Fp v w1 h hp => ahead_c mb Fm (opt0 M) tb cb Ft (clampR 2) pb pc Fp (clampR 2) who0 0 false false false false false v [4096, 8192] w1 h (by simp [opt0]) who0_ok hp)
  generalize aheadF (clampR 2) (clampR 2) who0 (opt0 M) [4096, 8192] = z at HAH HAh
  obtain ⟨zs, zl⟩ := z
  have hzl : zl = [4096] := HAH.out
  subst hzl
  clear HAH
  go_upto_region 8 with (first | (go_at_call 15; refine (HNew.out _ (C4.out.ext (by repeat (first | exact Ext.refl _ | assumption | refine Ext.alloc ?_ _ | refine Ext.drew ?_ | refine Ext.setCell ?_ (by first | (simp; done) | (dsimp only; omega)) _ | refine Ext.trans ?_ (by assumption))))).mono ?_; rintro e w5 ⟨tb, cb, Ft, pb, pc, Fp, rfl, hO5, hb5, hFt, hFp⟩) | (go_at_call 16; refine (HAh.out tb cb Ft pb pc Fp _ _ (hO5.ext ((Ext.refl w5).alloc _)) (planAt_new (ks := [4096, 8192]) hO5.lt (by simp) (by simp [maxLen]))).mono ?_; rintro e w6 ⟨v6, F1, F2', F3, rfl, o6, n6, hO6, hk6, f6⟩))
  have hz5 := hb5.size
  have hfr : ∀ x ∈ allO Fm Ft Fp, w1.heap.size ≤ x := fun x hx => by
    rcases mem_allO.1 hx with hx | hx | hx
    · exact F2.out x hx
    · have := hFt x hx; omega
    · have := hFp x hx; omega
  have E6 : Hid (Ext w1 w6) := Lib.hid (Keeps.to_ext (E4.out.trans (hb5.trans ((Ext.refl w5).alloc _))) hk6 hfr)
  obtain ⟨g6, c6, rfl⟩ : ∃ g6 c6, v6 = .slice (some ⟨g6, 0, none⟩) 1 c6 := by
    rcases o6.2 with ⟨_, h0⟩ | ⟨g, cap, cur, rfl, _⟩
    · simp at h0
    · exact ⟨g, cap, rfl⟩
  have p6 := o6.cells (g := g6) rfl 0 _ rfl
  have p1 := E6.out.someCell P1.out
  clear hb5 hO5 hO6 hk6 f6 hfr o6 n6 hFt hFp
  go_wp2
  go_ret
  exact ⟨rfl, E1.out.trans E6.out⟩
end Go.Proofs.YtkfonacokamfiaaGreat
