/- From a law's statement to its walk, with the arguments' size: what a slice at the head of a struct may hold. -/
import Derived.Test.YtkoohedbbdgjjaaRRow
namespace Go.Proofs.YtkoohedbbdgjjaaR
open Go.RowKit Go.ChangeShapes Go.WideShapes Go.ChangeAt

section
variable {H : Type} {enc : TypeId × Value → H} {P : Program} {w : World}

theorem mapM_cons_some {α β : Type} {f : α → Option β} {a : α} {l : List α} {r : List β} (h : (a :: l).mapM f = some r) : ∃ b s, f a = some b ∧ r = b :: s := by
  simp only [List.mapM_cons] at h
  cases ha : f a with
  | none => simp [ha] at h
  | some b =>
    simp only [ha] at h
    cases hl : l.mapM f with
    | none => simp [hl] at h
    | some s => simp [hl] at h; exact ⟨b, s, rfl, h.symm⟩
theorem mapM_length {α β : Type} {f : α → Option β} : ∀ {l : List α} {r : List β}, l.mapM f = some r → r.length = l.length
  | [], r, h => by simp at h; subst h; rfl
  | a :: l, r, h => by
    simp only [List.mapM_cons] at h
    cases ha : f a with
    | none => simp [ha] at h
    | some b =>
      simp only [ha] at h
      cases hl : l.mapM f with
      | none => simp [hl] at h
      | some s =>
        simp [hl] at h
        subst h
        simp [mapM_length hl]
/-- A slice of data: its places' bytes are among its weights. -/
theorem trod_slice_reach {n : Nat} {t e : TypeId} {a : Option Addr} {len cap : Nat} {x : DataW H × List MemPlace} {R : Nat} (hu : P.underlying t = some (.slice e))
    (h : DataW.trod enc P w 0 (fun _ => true) true n t [.slice a len cap] = some x) (hR : (x.1.weights P t).all (· ≤ R) = true) : cap * P.bytesOf e ≤ R := by
  cases n with
  | zero => simp [DataW.trod] at h
  | succ n =>
    unfold DataW.trod at h
    rw [hu] at h
    cases a with
    | none =>
      match len, cap, h with
      | 0, 0, h => simp
      | 0, cap + 1, h => simp at h
      | len + 1, cap, h => simp at h
    | some a =>
      simp only at h
      split at h
      · rename_i hc
        obtain ⟨_, hlc, _⟩ := hc
        cases h6 : (List.range len).mapM fun i => (w.cells? 0 (a.add (i * P.cellsOf e)) (P.cellsOf e)).bind (DataW.trod enc P w 0 (fun _ => true) true n e) with
        | none => simp [h6] at h
        | some els =>
          simp only [h6, Option.bind_some, if_true] at h
          cases h7 : (List.range (cap - len)).mapM fun j => (w.cells? 0 (a.add ((len + j) * P.cellsOf e)) (P.cellsOf e)).bind (DataW.trod enc P w 0 (fun _ => true) true n e) with
          | none => simp [h7] at h
          | some sps =>
            simp only [h7, Option.map_some, Option.some.injEq] at h
            subst h
            have l1 := mapM_length h6
            have l2 := mapM_length h7
            simp only [List.length_range] at l1 l2
            simp only [DataW.weights, hu, List.all_cons, Bool.and_eq_true, decide_eq_true_eq, List.length_map] at hR
            have := hR.1
            rw [l1, l2, show len + (cap - len) = cap by omega] at this
            exact this
      · cases h
/-- A struct's first field. -/
theorem trod_head_reach {n : Nat} {t e : TypeId} {fs : Array Field} {f : Field} {r : List Field} {a : Option Addr} {len cap : Nat} {cs : List Value} {x : DataW H × List MemPlace} {R : Nat} (hu : P.underlying t = some (.struct fs)) (hf : fs.toList = f :: r)
    (h0 : f.offset = 0) (h1 : P.cellsOf f.type = 1) (hs : P.underlying f.type = some (.slice e))
    (h : DataW.trod enc P w 0 (fun _ => true) true n t (.slice a len cap :: cs) = some x) (hR : (x.1.weights P t).all (· ≤ R) = true) : cap * P.bytesOf e ≤ R := by
  cases n with
  | zero => simp [DataW.trod] at h
  | succ n =>
    unfold DataW.trod at h
    rw [hu] at h
    simp only at h
    split at h
    · cases h6 : fs.toList.mapM fun f => DataW.trod enc P w 0 (fun _ => true) true n f.type (((Value.slice a len cap :: cs).drop f.offset).take (P.cellsOf f.type)) with
      | none => simp [h6] at h
      | some els =>
        simp only [h6, Option.map_some, Option.some.injEq] at h
        subst h
        rw [hf] at h6
        obtain ⟨y, s, hy, rfl⟩ := mapM_cons_some h6
        simp only [h0, h1, List.drop_zero, List.take_succ_cons, List.take_zero] at hy
        refine trod_slice_reach hs hy ?_
        simp only [DataW.weights, hu, hf, List.map_cons, DataW.weightsEach, List.all_append, Bool.and_eq_true] at hR
        exact hR.1
    · cases h

/-- A law's row, from its walk, where the walk asks of the arguments' sizes. -/
theorem law_lift_sized {C : Checked} {os : Os} {n : FuncId} {f : Func} {s : ChangeSpec} {tb : TypeId} (S : List Value → Prop) (dscs : List Dsc)
    (own : ownKnob C.prog.godebug = none) (started : os.Started) (noInit : C.prog.inits.idxOf? n = none) (hfn : C.prog.funcs[n]? = some f)
    (witness : ∃ (w : World) (tape : Tape) (i : Input), w.os = os ∧ (w.forCall tape i).Shaped C.prog ∧ i.vars = [] ∧ Input.okWide C.prog (w.forCall tape i) .any w.heap.size n i ∧
      s.pre6 enc C.prog f [] false (w.forCall tape i).memory i.args ∧ Assume.holds ({} : Assume) C.prog (lone (Frame.enter C.prog n i.args .normal) [] (w.forCall tape i)))
    (hl : laidOutB C.prog = true) (hpar : okParams C.prog dscs f.params.toList = true) (hres : f.resultTypes = #[tb]) (htb : C.prog.underlying tb = some .bool) (hvars : s.vars = [])
    (hspec : ∀ ds : List (DataW H), ds.length = dscs.length → s.fn H ds = { results := [.lit (.bool true)], args := ds })
    (hS : ∀ (W : World) (args : List Value) (ds : List (DataW H)) (p : List MemPlace), DataW.TrodAll enc C.prog W 0 (fun _ => true) true f.params.toList args ds p → (DataW.weightsEach C.prog f.params.toList ds).all (· ≤ reachBytes) = true → S args)
    (walk : ∀ (W : World) (args : List Value), ArgsAre W dscs args → S args → Calls C.prog n args.toArray W fun e w' => e = .returned (.bool true) ∧ Ext W w') :
    ReturnsInHanded {} C os n .any (s.pre6 enc C.prog f [] false) (s.post enc C.prog f false true false false) := by
  refine returnsInHanded_of_change_sized own started noInit hfn witness ?_
  intro W base args ds gs before hval hW _ hsz _
  have hW0 := hW
  obtain ⟨p, q, hA, hV, _⟩ := hW
  rw [hvars] at hV
  obtain ⟨rfl, rfl⟩ := trodVars_none hV
  have ⟨h1, h2⟩ := args_are dscs _ _ _ _ hpar (fun j t v hj hv => hval j t v (by simpa using hj) (by simpa using hv)) hA
  have hv0 : s.plain.varTypes C.prog = [] := by simp [ChangeSpec.plain, hvars, DataSpec.varTypes]
  rw [hv0, List.append_nil, List.append_nil] at hsz
  have := walk W args.toList h1 (hS W _ _ _ hA hsz)
  simp only [Array.toArray_toList] at this
  exact this.mono fun e w' ⟨he, hb⟩ => ⟨_, he, law_post dscs hl hpar hres htb hvars hspec h2 hW0 hb⟩
end
end Go.Proofs.YtkoohedbbdgjjaaR
