/- Joined texts, part 35 of what the law stands on: each as its own head says. -/
import Derived.Test.YtkfonacokamfiaaPly34
/- From a law's statement to its walk, with the arguments' size: what a slice within a slice's elements may hold. Own text. -/
namespace Go.Proofs.Ytkfonacokamfiaa
open Go.RowKit Go.ChangeShapes Go.WideShapes Go.ChangeAt

section
variable {H : Type} {enc : TypeId × Value → H} {P : Program} {w : World}
theorem mapM_at {α β : Type} {f : α → Option β} : ∀ {l : List α} {r : List β}, l.mapM f = some r → ∀ (i : Nat) (a : α), l[i]? = some a → ∃ b, f a = some b ∧ r[i]? = some b
  | [], r, h, i, a, hi => by simp at hi
  | x :: l, r, h, i, a, hi => by
    obtain ⟨b, s, h1, rfl⟩ := mapM_cons_some h
    cases i with
    | zero =>
      simp only [List.getElem?_cons_zero, Option.some.injEq] at hi
      subst hi
      exact ⟨b, h1, rfl⟩
    | succ i =>
      simp only [List.getElem?_cons_succ] at hi
      have hs : l.mapM f = some s := by
        simp only [List.mapM_cons, h1] at h
        cases hl : l.mapM f with
        | none => simp [hl] at h
        | some s' => simp [hl] at h; rw [h]
      obtain ⟨c, h2, h3⟩ := mapM_at hs i a hi
      exact ⟨c, h2, by simpa using h3⟩
theorem weightsAll_at {e : TypeId} {R : Nat} : ∀ {l : List (DataW H)} {i : Nat} {d : DataW H}, l[i]? = some d → (DataW.weightsAll P e l).all (· ≤ R) = true → (d.weights P e).all (· ≤ R) = true
  | [], i, d, h, _ => by simp at h
  | x :: l, 0, d, h, hR => by
    simp only [List.getElem?_cons_zero, Option.some.injEq] at h
    subst h
    simp only [DataW.weightsAll, List.all_append, Bool.and_eq_true] at hR
    exact hR.1
  | x :: l, i + 1, d, h, hR => by
    simp only [DataW.weightsAll, List.all_append, Bool.and_eq_true] at hR
    exact weightsAll_at (by simpa using h) hR.2
theorem weightsEach_at {R : Nat} : ∀ {ts : List TypeId} {l : List (DataW H)} {i : Nat} {t : TypeId} {d : DataW H}, ts[i]? = some t → l[i]? = some d → (DataW.weightsEach P ts l).all (· ≤ R) = true → (d.weights P t).all (· ≤ R) = true
  | [], l, i, t, d, h, _, _ => by simp at h
  | _ :: _, [], i, t, d, _, h, _ => by simp at h
  | t' :: ts, x :: l, 0, t, d, h, h2, hR => by
    simp only [List.getElem?_cons_zero, Option.some.injEq] at h h2
    subst h h2
    simp only [DataW.weightsEach, List.all_append, Bool.and_eq_true] at hR
    exact hR.1
  | t' :: ts, x :: l, i + 1, t, d, h, h2, hR => by
    simp only [DataW.weightsEach, List.all_append, Bool.and_eq_true] at hR
    exact weightsEach_at (by simpa using h) (by simpa using h2) hR.2
/-- An element of a slice. -/
theorem trod_elem {n : Nat} {t e : TypeId} {a : Addr} {len cap i : Nat} {x : DataW H × List MemPlace} {R : Nat} (hu : P.underlying t = some (.slice e)) (h : DataW.trod enc P w 0 (fun _ => true) true n t [.slice (some a) len cap] = some x) (hi : i < len)
    (hR : (x.1.weights P t).all (· ≤ R) = true) : ∃ m vs y, w.cells? 0 (a.add (i * P.cellsOf e)) (P.cellsOf e) = some vs ∧ DataW.trod enc P w 0 (fun _ => true) true m e vs = some y ∧ (y.1.weights P e).all (· ≤ R) = true := by
  cases n with
  | zero => simp [DataW.trod] at h
  | succ n =>
    unfold DataW.trod at h
    rw [hu] at h
    simp only at h
    split at h
    · cases h6 : (List.range len).mapM fun i => (w.cells? 0 (a.add (i * P.cellsOf e)) (P.cellsOf e)).bind (DataW.trod enc P w 0 (fun _ => true) true n e) with
      | none => simp [h6] at h
      | some els =>
        simp only [h6, Option.bind_some, if_true] at h
        cases h7 : (List.range (cap - len)).mapM fun j => (w.cells? 0 (a.add ((len + j) * P.cellsOf e)) (P.cellsOf e)).bind (DataW.trod enc P w 0 (fun _ => true) true n e) with
        | none => simp [h7] at h
        | some sps =>
          simp only [h7, Option.map_some, Option.some.injEq] at h
          subst h
          obtain ⟨y, hy, hy2⟩ := mapM_at h6 i i (by simp [hi])
          cases h8 : w.cells? 0 (a.add (i * P.cellsOf e)) (P.cellsOf e) with
          | none => simp [h8] at hy
          | some vs =>
            simp only [h8, Option.bind_some] at hy
            refine ⟨n, vs, y, rfl, hy, ?_⟩
            simp only [DataW.weights, hu, List.all_cons, Bool.and_eq_true, List.all_append] at hR
            exact weightsAll_at (l := els.map (·.1)) (i := i) (by rw [List.getElem?_map, hy2]; rfl) hR.2.1
    · cases h
/-- A struct's field. -/
theorem trod_field {n j : Nat} {t : TypeId} {fs : Array Field} {f : Field} {cs : List Value} {x : DataW H × List MemPlace} {R : Nat} (hu : P.underlying t = some (.struct fs)) (hf : fs.toList[j]? = some f)
    (h : DataW.trod enc P w 0 (fun _ => true) true n t cs = some x) (hR : (x.1.weights P t).all (· ≤ R) = true) :
    ∃ m y, DataW.trod enc P w 0 (fun _ => true) true m f.type ((cs.drop f.offset).take (P.cellsOf f.type)) = some y ∧ (y.1.weights P f.type).all (· ≤ R) = true := by
  cases n with
  | zero => simp [DataW.trod] at h
  | succ n =>
    unfold DataW.trod at h
    rw [hu] at h
    simp only at h
    split at h
    · cases h6 : fs.toList.mapM fun f => DataW.trod enc P w 0 (fun _ => true) true n f.type ((cs.drop f.offset).take (P.cellsOf f.type)) with
      | none => simp [h6] at h
      | some els =>
        simp only [h6, Option.map_some, Option.some.injEq] at h
        subst h
        obtain ⟨y, hy, hy2⟩ := mapM_at h6 j f hf
        refine ⟨n, y, hy, ?_⟩
        simp only [DataW.weights, hu] at hR
        exact weightsEach_at (i := j) (by rw [List.getElem?_map, hf]; rfl) (by rw [List.getElem?_map, hy2]; rfl) hR
    · cases h
theorem cells?_get {a : Addr} {n : Nat} {cs : List Value} (h : w.cells? 0 a n = some cs) {i : Nat} (hi : i < n) : cs[i]? = w.cell? (a.add i) := by
  unfold World.cells? at h
  rw [if_pos (Nat.zero_le _)] at h
  obtain ⟨b, h1, h2⟩ := mapM_at h i i (by simp [hi])
  rw [h2, h1]

/-- A law's row, from its walk, where the walk asks of the arguments' sizes, in the world that has them. -/
theorem law_lift_sizedW {C : Checked} {os : Os} {n : FuncId} {f : Func} {s : ChangeSpec} {tb : TypeId} (S : World → List Value → Prop) (dscs : List Dsc)
    (own : ownKnob C.prog.godebug = none) (started : os.Started) (noInit : C.prog.inits.idxOf? n = none) (hfn : C.prog.funcs[n]? = some f)
    (witness : ∃ (w : World) (tape : Tape) (i : Input), w.os = os ∧ (w.forCall tape i).Shaped C.prog ∧ i.vars = [] ∧ Input.okWide C.prog (w.forCall tape i) .any w.heap.size n i ∧
      s.pre6 enc C.prog f [] false (w.forCall tape i).memory i.args ∧ Assume.holds ({} : Assume) C.prog (lone (Frame.enter C.prog n i.args .normal) [] (w.forCall tape i)))
    (hl : laidOutB C.prog = true) (hpar : okParams C.prog dscs f.params.toList = true) (hres : f.resultTypes = #[tb]) (htb : C.prog.underlying tb = some .bool) (hvars : s.vars = [])
    (hspec : ∀ ds : List (DataW H), ds.length = dscs.length → s.fn H ds = { results := [.lit (.bool true)], args := ds })
    (hS : ∀ (W : World) (args : List Value) (ds : List (DataW H)) (p : List MemPlace), DataW.TrodAll enc C.prog W 0 (fun _ => true) true f.params.toList args ds p → (DataW.weightsEach C.prog f.params.toList ds).all (· ≤ reachBytes) = true → S W args)
    (walk : ∀ (W : World) (args : List Value), ArgsAre W dscs args → S W args → Calls C.prog n args.toArray W fun e w' => e = .returned (.bool true) ∧ Ext W w') :
    ReturnsInHanded {} C os n .any (s.pre6 enc C.prog f [] false) (s.post enc C.prog f false true false false) := by
  refine returnsInHanded_of_change_sized own started noInit hfn witness ?_
  intro W base args ds gs before hval hW _ hsz _
  have hW0 := hW
  obtain ⟨p, q, hA, hV, _⟩ := hW
  rw [hvars] at hV
  obtain ⟨rfl, rfl⟩ := trodVars_none hV
  have ⟨h1, h2⟩ := args_are dscs _ _ _ _ hpar (fun j t v hj hv => hval j t v (by simpa using hj) (by simpa using hv)) hA
  have hv0 : s.plain.varTypes C.prog = [] := by simp [ChangeSpec.plain, hvars, DataSpec.varTypes]
  rw [hv0, List.append_nil, List.append_nil] at hsz
  have := walk W args.toList h1 (hS W _ _ _ hA hsz)
  simp only [Array.toArray_toList] at this
  exact this.mono fun e w' ⟨he, hb⟩ => ⟨_, he, law_post dscs hl hpar hres htb hvars hspec h2 hW0 hb⟩
end
end Go.Proofs.Ytkfonacokamfiaa
