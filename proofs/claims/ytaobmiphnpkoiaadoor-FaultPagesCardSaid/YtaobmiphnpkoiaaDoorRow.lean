/- From a law's statement to its walk: what arguments that read as data are, by the shape of their types; and what a call that returns true and only lays new memory leaves. Own text. -/
import Derived.Test.YtaobmiphnpkoiaaDoorBase
import Derived.Test.YtaobmiphnpkoiaaDoorRows
import Derived.ProofKit
import Derived.SizedLaws
namespace Go.Proofs.YtaobmiphnpkoiaaDoor
open Go.RowKit Go.ChangeShapes Go.WideShapes Go.ChangeAt

/-- The shape of a type of plain data. -/
inductive Dsc where
  | bool
  | int (k : IntKind)
  | str
  | slice (e : Dsc)
  | row (ds : List Dsc)

mutual
def Dsc.size : Dsc → Nat
  | .row ds => Dsc.sizes ds
  | .bool => 1
  | .int _ => 1
  | .str => 1
  | .slice _ => 1
def Dsc.sizes : List Dsc → Nat
  | [] => 0
  | d :: ds => d.size + Dsc.sizes ds
end

mutual
def Dsc.ok (P : Program) : Dsc → TypeId → Bool
  | .bool, t => match P.underlying t with | some .bool => true | _ => false
  | .int k, t => match P.underlying t with | some (.int q) => decide (q = k) | _ => false
  | .str, t => match P.underlying t with | some .string => true | _ => false
  | .slice d, t => match P.underlying t with | some (.slice e) => d.ok P e && decide (P.cellsOf e = d.size) | _ => false
  | .row ds, t => match P.underlying t with
    | some (.struct fs) => Dsc.okFields P ds fs.toList 0
    | some (.array n e) => decide (ds.length = n) && Dsc.okElems P ds e
    | _ => false
def Dsc.okFields (P : Program) : List Dsc → List Field → Nat → Bool
  | [], [], _ => true
  | d :: ds, f :: fs, off => decide (f.offset = off) && decide (P.cellsOf f.type = d.size) && d.ok P f.type && Dsc.okFields P ds fs (off + d.size)
  | _, _, _ => false
def Dsc.okElems (P : Program) : List Dsc → TypeId → Bool
  | [], _ => true
  | d :: ds, e => decide (P.cellsOf e = d.size) && d.ok P e && Dsc.okElems P ds e
end

mutual
/-- What cells that read as such data are. -/
def Dsc.Is (w : World) : Dsc → List Value → Prop
  | .bool, cs => ∃ b, cs = [.bool b]
  | .int k, cs => ∃ n, cs = [.int k n] ∧ (Lit.int k n).wf = true
  | .str, cs => ∃ s : ByteArray, cs = [.string s] ∧ s.size ≤ maxLen
  | .slice d, cs => cs = [.slice none 0 0] ∨ ∃ a len cap, cs = [.slice (some a) len cap] ∧ len ≤ cap ∧ cap ≤ maxLen ∧
      ∀ i, i < cap → ∃ vs, w.cells? 0 (a.add (i * d.size)) d.size = some vs ∧ Dsc.Is w d vs
  | .row ds, cs => Dsc.IsAll w ds cs
def Dsc.IsAll (w : World) : List Dsc → List Value → Prop
  | [], _ => True
  | d :: ds, cs => Dsc.Is w d (cs.take d.size) ∧ Dsc.IsAll w ds (cs.drop d.size)
end

theorem mapM_some_mem {α β : Type} {f : α → Option β} : ∀ {l : List α} {r : List β}, l.mapM f = some r → ∀ x ∈ l, ∃ y, f x = some y
  | [], _, _, x, hx => by cases hx
  | a :: l, r, h, x, hx => by
    simp only [List.mapM_cons] at h
    cases ha : f a with
    | none => simp [ha] at h
    | some b =>
      simp only [ha] at h
      cases hl : l.mapM f with
      | none => simp [hl] at h
      | some s =>
        rcases List.mem_cons.1 hx with rfl | hx
        · exact ⟨b, ha⟩
        · exact mapM_some_mem hl x hx

section
variable {H : Type} {enc : TypeId × Value → H} {P : Program} {w : World}

theorem Dsc.fields_is {n : Nat} (ih : ∀ (d : Dsc) (t : TypeId) (cs : List Value) (x : DataW H × List MemPlace), d.ok P t = true → DataW.trod enc P w 0 (fun _ => true) true n t cs = some x → d.Is w cs) (all : List Value) :
    ∀ (ds : List Dsc) (fs : List Field) (off : Nat), Dsc.okFields P ds fs off = true →
      (∀ f ∈ fs, ∃ x, DataW.trod enc P w 0 (fun _ => true) true n f.type ((all.drop f.offset).take (P.cellsOf f.type)) = some x) → Dsc.IsAll w ds (all.drop off)
  | [], _, _, _, _ => trivial
  | d :: ds, [], _, hok, _ => by simp [Dsc.okFields] at hok
  | d :: ds, f :: fs, off, hok, h => by
    simp only [Dsc.okFields, Bool.and_eq_true, decide_eq_true_eq] at hok
    obtain ⟨⟨⟨h1, h2⟩, h3⟩, h4⟩ := hok
    obtain ⟨x, hx⟩ := h f (List.mem_cons_self ..)
    refine ⟨?_, ?_⟩
    · rw [h1, h2] at hx
      exact ih d f.type _ x h3 hx
    · rw [List.drop_drop]
      exact Dsc.fields_is ih all ds fs (off + d.size) h4 (fun g hg => h g (List.mem_cons_of_mem _ hg))

theorem Dsc.elems_is {n : Nat} (ih : ∀ (d : Dsc) (t : TypeId) (cs : List Value) (x : DataW H × List MemPlace), d.ok P t = true → DataW.trod enc P w 0 (fun _ => true) true n t cs = some x → d.Is w cs) (all : List Value) (e : TypeId) :
    ∀ (ds : List Dsc) (k : Nat), Dsc.okElems P ds e = true →
      (∀ i, k ≤ i → i < k + ds.length → ∃ x, DataW.trod enc P w 0 (fun _ => true) true n e ((all.drop (i * P.cellsOf e)).take (P.cellsOf e)) = some x) → Dsc.IsAll w ds (all.drop (k * P.cellsOf e))
  | [], _, _, _ => trivial
  | d :: ds, k, hok, h => by
    simp only [Dsc.okElems, Bool.and_eq_true, decide_eq_true_eq] at hok
    obtain ⟨⟨h2, h3⟩, h4⟩ := hok
    obtain ⟨x, hx⟩ := h k (Nat.le_refl _) (by simp)
    refine ⟨?_, ?_⟩
    · have := ih d e _ x h3 hx
      rw [← h2]; exact this
    · rw [List.drop_drop, ← h2, show k * P.cellsOf e + P.cellsOf e = (k + 1) * P.cellsOf e by rw [Nat.add_mul, Nat.one_mul]]
      exact Dsc.elems_is ih all e ds (k + 1) h4 (fun i h1 h2 => h i (by omega) (by simp only [List.length_cons]; omega))

/-- Cells that read as data of a type are of its shape. -/
theorem Dsc.is_of_trod : ∀ (n : Nat) (d : Dsc) (t : TypeId) (cs : List Value) (x : DataW H × List MemPlace), d.ok P t = true → DataW.trod enc P w 0 (fun _ => true) true n t cs = some x → d.Is w cs
  | 0, _, _, _, _, _, h => by simp [DataW.trod] at h
  | n + 1, .bool, t, cs, x, hok, h => by
    simp only [Dsc.ok] at hok
    unfold DataW.trod at h
    split at hok
    · rename_i hu
      rw [hu] at h
      split at h <;> simp_all [Dsc.Is]
    · cases hok
  | n + 1, .int k, t, cs, x, hok, h => by
    simp only [Dsc.ok] at hok
    unfold DataW.trod at h
    split at hok
    · rename_i q hu
      simp only [decide_eq_true_eq] at hok
      subst hok
      rw [hu] at h
      split at h <;> try simp_all [Dsc.Is]
    · cases hok
  | n + 1, .str, t, cs, x, hok, h => by
    simp only [Dsc.ok] at hok
    split at hok
    · rename_i hu
      obtain ⟨s, h1, h2, h3⟩ := DataW.trod_string hu h
      exact ⟨s, h1, h3⟩
    · cases hok
  | n + 1, .slice d, t, cs, x, hok, h => by
    simp only [Dsc.ok] at hok
    unfold DataW.trod at h
    split at hok
    · rename_i e hu
      simp only [Bool.and_eq_true, decide_eq_true_eq] at hok
      obtain ⟨h1, h2⟩ := hok
      rw [hu] at h
      split at h <;> try (first | (rename_i hh _; cases hh; done) | (rename_i hh; cases hh; done))
      all_goals first
        | (left; rfl)
        | skip
      all_goals try (simp at *; done)
      rename_i e' a len cap he
      obtain rfl : e = e' := by injection he with he; injection he
      split at h
      · rename_i hc
        obtain ⟨h3, h4, h5⟩ := hc
        right
        refine ⟨a, len, cap, rfl, h4, h5, fun i hi => ?_⟩
        cases h6 : (List.range len).mapM fun i => (w.cells? 0 (a.add (i * P.cellsOf e)) (P.cellsOf e)).bind (DataW.trod enc P w 0 (fun _ => true) true n e) with
        | none => simp [h6] at h
        | some els =>
          simp only [h6, Option.bind_some, if_true] at h
          cases h7 : (List.range (cap - len)).mapM fun j => (w.cells? 0 (a.add ((len + j) * P.cellsOf e)) (P.cellsOf e)).bind (DataW.trod enc P w 0 (fun _ => true) true n e) with
          | none => simp [h7] at h
          | some sps =>
            have key : ∃ y, (w.cells? 0 (a.add (i * P.cellsOf e)) (P.cellsOf e)).bind (DataW.trod enc P w 0 (fun _ => true) true n e) = some y := by
              by_cases hil : i < len
              · exact mapM_some_mem h6 i (List.mem_range.2 hil)
              · have := mapM_some_mem h7 (i - len) (List.mem_range.2 (by omega))
                rw [show len + (i - len) = i by omega] at this
                exact this
            obtain ⟨y, hy⟩ := key
            rw [h2] at hy
            cases h8 : w.cells? 0 (a.add (i * d.size)) d.size with
            | none => simp [h8] at hy
            | some vs =>
              simp only [h8, Option.bind_some] at hy
              exact ⟨vs, rfl, Dsc.is_of_trod n d e vs y h1 hy⟩
      · cases h
    · cases hok
  | n + 1, .row ds, t, cs, x, hok, h => by
    simp only [Dsc.ok] at hok
    unfold DataW.trod at h
    split at hok
    · rename_i fs hu
      rw [hu] at h
      simp only at h
      split at h
      · cases h6 : fs.toList.mapM fun f => DataW.trod enc P w 0 (fun _ => true) true n f.type ((cs.drop f.offset).take (P.cellsOf f.type)) with
        | none => simp [h6] at h
        | some r =>
          have := Dsc.fields_is (Dsc.is_of_trod n) cs ds fs.toList 0 hok (fun f hf => mapM_some_mem h6 f hf)
          simpa [Dsc.Is] using this
      · cases h
    · rename_i m e hu
      rw [hu] at h
      simp only at h
      simp only [Bool.and_eq_true, decide_eq_true_eq] at hok
      split at h
      · cases h6 : (List.range m).mapM fun i => DataW.trod enc P w 0 (fun _ => true) true n e ((cs.drop (i * P.cellsOf e)).take (P.cellsOf e)) with
        | none => simp [h6] at h
        | some r =>
          have := Dsc.elems_is (Dsc.is_of_trod n) cs e ds 0 hok.2 (fun i _ hi => mapM_some_mem h6 i (List.mem_range.2 (by omega)))
          simpa [Dsc.Is] using this
      · cases h
    · cases hok

theorem len1 {α : Type} {l : List α} (h : l.length = 1) : ∃ a, l = [a] := by
  match l, h with | [a], _ => exact ⟨a, rfl⟩
theorem len2 {α : Type} {l : List α} (h : l.length = 2) : ∃ a b, l = [a, b] := by
  match l, h with | [a, b], _ => exact ⟨a, b, rfl⟩
theorem len3 {α : Type} {l : List α} (h : l.length = 3) : ∃ a b c, l = [a, b, c] := by
  match l, h with | [a, b, c], _ => exact ⟨a, b, c, rfl⟩
theorem len4 {α : Type} {l : List α} (h : l.length = 4) : ∃ a b c d, l = [a, b, c, d] := by
  match l, h with | [a, b, c, d], _ => exact ⟨a, b, c, d, rfl⟩
theorem len6 {α : Type} {l : List α} (h : l.length = 6) : ∃ a b c d e f, l = [a, b, c, d, e, f] := by
  match l, h with | [a, b, c, d, e, f], _ => exact ⟨a, b, c, d, e, f, rfl⟩

/-- An argument of such a shape. -/
def ArgIs (w : World) : Dsc → Value → Prop
  | .row ds, v => ∃ cs : List Value, v = .agg cs.toArray ∧ cs.length = Dsc.sizes ds ∧ Dsc.IsAll w ds cs
  | d, v => d.Is w [v]
def ArgsAre (w : World) : List Dsc → List Value → Prop
  | [], vs => vs = []
  | d :: ds, vs => ∃ v r, vs = v :: r ∧ ArgIs w d v ∧ ArgsAre w ds r

theorem arg_is {base : Nat} {d : Dsc} {t : TypeId} {v : Value} {x : DataW H} {ps : List MemPlace} (hok : d.ok P t = true) (hc : P.cellsOf t = d.size) (hv : Value.okWide P w .any base t v)
    (h : DataW.Trod enc P w 0 (fun _ => true) true t v x ps) : ArgIs w d v := by
  obtain ⟨n, hn⟩ := h
  have his := Dsc.is_of_trod n d t _ _ hok hn
  cases d with
  | row ds =>
    have hu : ∃ cs, v = .agg cs ∧ cs.size = P.cellsOf t := by
      unfold Value.okWide at hv
      simp only [Dsc.ok] at hok
      split at hok
      · rename_i fs hu; rw [hu] at hv; obtain ⟨cs, h1, h2, _⟩ := hv; exact ⟨cs, h1, h2⟩
      · rename_i m e hu; rw [hu] at hv; obtain ⟨cs, h1, h2, _⟩ := hv; exact ⟨cs, h1, h2⟩
      · cases hok
    obtain ⟨cs, rfl, hsz⟩ := hu
    exact ⟨cs.toList, by simp, by simp [hsz, hc, Dsc.size], by simpa [Dsc.Is, Value.cells] using his⟩
  | bool =>
    simp only [Dsc.ok] at hok
    split at hok
    · rename_i hu
      obtain ⟨b, rfl, _⟩ := open_bool hu hv ⟨n, hn⟩
      exact ⟨b, rfl⟩
    · cases hok
  | int k =>
    simp only [Dsc.ok] at hok
    split at hok
    · rename_i q hu
      obtain rfl : q = k := by simpa using hok
      obtain ⟨b, rfl, _, _, hb⟩ := open_int hu hv ⟨n, hn⟩
      exact ⟨b, rfl, hb⟩
    · cases hok
  | str =>
    simp only [Dsc.ok] at hok
    split at hok
    · rename_i hu
      obtain ⟨s, rfl⟩ := okWide_string hu hv
      exact his
    · cases hok
  | slice e =>
    simp only [Dsc.ok] at hok
    split at hok
    · rename_i q hu
      obtain ⟨a, len, cap, rfl⟩ := okWide_slice hu hv
      exact his
    · cases hok

def okParams (P : Program) : List Dsc → List TypeId → Bool
  | [], [] => true
  | d :: ds, t :: ts => d.ok P t && decide (P.cellsOf t = d.size) && P.readableRec t && decide (t < P.types.size) && okParams P ds ts
  | _, _ => false

theorem args_are {base : Nat} : ∀ (dscs : List Dsc) (ts : List TypeId) (vs : List Value) (xs : List (DataW H)) (ps : List MemPlace), okParams P dscs ts = true →
    (∀ (j : Nat) t v, ts[j]? = some t → vs[j]? = some v → Value.okWide P w .any base t v) → DataW.TrodAll enc P w 0 (fun _ => true) true ts vs xs ps → ArgsAre w dscs vs ∧ xs.length = dscs.length
  | [], ts, vs, xs, ps, hok, hv, h => by
    cases ts with
    | nil => obtain ⟨h1, h2, _⟩ := trodAll_nil h; exact ⟨h1, by rw [h2]; rfl⟩
    | cons t ts => simp [okParams] at hok
  | d :: ds, ts, vs, xs, ps, hok, hv, h => by
    cases ts with
    | nil => simp [okParams] at hok
    | cons t ts =>
      simp only [okParams, Bool.and_eq_true, decide_eq_true_eq] at hok
      obtain ⟨⟨⟨⟨h1, h2⟩, h3⟩, h4⟩, h5⟩ := hok
      obtain ⟨v, vs1, x, xs1, a, b, rfl, rfl, rfl, hx, hr⟩ := trodAll_cons h
      have ⟨r1, r2⟩ := args_are ds ts vs1 xs1 b h5 (fun j t' v' hj hv' => hv (j + 1) t' v' (by simpa using hj) (by simpa using hv')) hr
      exact ⟨⟨v, vs1, rfl, arg_is h1 h2 (hv 0 t v rfl rfl) hx, r1⟩, by simp [r2]⟩

theorem trodAll_kept (hl : laidOutB P = true) {W W' : World} (hb : Below W.heap.size W W') : ∀ (dscs : List Dsc) (ts : List TypeId) (vs : List Value) (xs : List (DataW H)) (ps : List MemPlace), okParams P dscs ts = true →
    DataW.TrodAll enc P W 0 (fun _ => true) true ts vs xs ps → (∀ p ∈ ps, p.block < W.heap.size) → DataW.TrodAll enc P W' 0 (fun b => decide (b < W.heap.size)) true ts vs xs ps
  | [], ts, vs, xs, ps, hok, h, hlt => by
    cases ts with
    | nil => obtain ⟨rfl, rfl, rfl⟩ := trodAll_nil h; rfl
    | cons t ts => simp [okParams] at hok
  | d :: ds, ts, vs, xs, ps, hok, h, hlt => by
    cases ts with
    | nil => simp [okParams] at hok
    | cons t ts =>
      simp only [okParams, Bool.and_eq_true, decide_eq_true_eq] at hok
      obtain ⟨⟨⟨⟨h1, h2⟩, h3⟩, h4⟩, h5⟩ := hok
      obtain ⟨v, vs1, x, xs1, a, b, rfl, rfl, rfl, hx, hr⟩ := trodAll_cons h
      exact ⟨a, b, Below.trod hl h3 h4 hx hb (fun p hp => hlt p (List.mem_append.2 (.inl hp))), trodAll_kept hl hb ds ts vs1 xs1 b h5 hr (fun p hp => hlt p (List.mem_append.2 (.inr hp))), rfl⟩

theorem mapM_range {α : Type} {f : Nat → Option α} : ∀ (n : Nat) {r : List α}, (List.range n).mapM f = some r → r.length = n ∧ ∀ j, j < n → f j = r[j]?
  | 0, r, h => by simp at h; subst h; simp
  | n + 1, r, h => by
    rw [List.range_succ, List.mapM_append] at h
    cases h1 : (List.range n).mapM f with
    | none => simp [h1] at h
    | some a =>
      simp only [h1] at h
      cases h2 : f n with
      | none => simp [h2] at h
      | some b =>
        simp [h2] at h
        subst h
        have ⟨e1, e2⟩ := mapM_range n h1
        refine ⟨by simp [e1], fun j hj => ?_⟩
        by_cases hjn : j < n
        · rw [e2 j hjn, List.getElem?_append_left (by omega)]
        · obtain rfl : j = n := by omega
          rw [h2, List.getElem?_append_right (by omega)]
          simp [e1]

/-- A slice that is not empty, cell by cell. -/
theorem slice_open {w : World} {e : Dsc} {a : Addr} {cap : Nat} (hs : 0 < e.size) (hcap : 0 < cap) (h : ∀ i, i < cap → ∃ vs, w.cells? 0 (a.add (i * e.size)) e.size = some vs ∧ e.Is w vs) :
    ∃ b off, a = ⟨b, off, none⟩ ∧ b < w.heap.size ∧ ∀ i, i < cap → ∃ vs, vs.length = e.size ∧ (∀ j, j < e.size → w.cell? ⟨b, off + i * e.size + j, none⟩ = vs[j]?) ∧ e.Is w vs := by
  obtain ⟨b, off, spot⟩ := a
  have key : ∀ i, i < cap → ∃ vs, vs.length = e.size ∧ (∀ j, j < e.size → w.cell? ((Addr.add ⟨b, off, spot⟩ (i * e.size)).add j) = vs[j]?) ∧ e.Is w vs := fun i hi => by
    obtain ⟨vs, h1, h2⟩ := h i hi
    unfold World.cells? at h1
    rw [if_pos (Nat.zero_le _)] at h1
    have ⟨e1, e2⟩ := mapM_range _ h1
    exact ⟨vs, e1, e2, h2⟩
  obtain ⟨vs0, l0, c0, _⟩ := key 0 hcap
  have c00 := c0 0 hs
  have hv : ∃ v, vs0[0]? = some v := ⟨vs0[0]'(by omega), by simp⟩
  obtain ⟨v, hv⟩ := hv
  rw [hv] at c00
  simp only [Nat.zero_mul, Addr.add, if_true] at c00
  cases spot with
  | some s =>
    simp only [World.cell?] at c00
    split at c00
    · simp at c00
    · cases c00
  | none =>
    refine ⟨b, off, rfl, World.block_lt_of_cell? _ _ c00, fun i hi => ?_⟩
    obtain ⟨vs, l, c, hI⟩ := key i hi
    refine ⟨vs, l, fun j hj => ?_, hI⟩
    rw [← c j hj]
    congr 1
    unfold Addr.add
    split <;> split <;> simp_all <;> omega

/-- What the row asks of a law that returns true and only lays new memory. -/
theorem law_post {f : Func} {s : ChangeSpec} {W W' : World} {args : Array Value} {xs gs : List (DataW H)} {before : List MemPlace} {tb : TypeId} (dscs : List Dsc)
    (hl : laidOutB P = true) (hpar : okParams P dscs f.params.toList = true) (hres : f.resultTypes = #[tb]) (htb : P.underlying tb = some .bool) (hvars : s.vars = [])
    (hspec : ∀ ds : List (DataW H), ds.length = dscs.length → s.fn H ds = { results := [.lit (.bool true)], args := ds })
    (hlen : xs.length = dscs.length) (hW : DataW.Whole enc P f.params.toList s.vars false W args.toList xs gs before) (hb : Ext W W') :
    s.post enc P f false true false false W args (.bool true) W' := by
  have hlt := hW.lt
  have hW0 := hW
  obtain ⟨p, q, hA, hV, rfl, _, _⟩ := hW
  rw [hvars] at hV
  obtain ⟨rfl, rfl⟩ := trodVars_none hV
  simp only [List.append_nil] at hW0 hlt
  have e1 : s.fn H (xs ++ []) = { results := [.lit (.bool true)], args := xs } := by rw [List.append_nil]; exact hspec xs hlen
  refine ⟨xs, [], p, [], p, [], hW0, ?_, ?_, ?_, Below.frame hb _, fun h => by cases h⟩
  · rw [e1, hres]; exact trodAll_mk1 (shut_bool htb true)
  · rw [e1]; exact trodAll_kept hl hb dscs _ _ _ _ hpar hA hlt
  · rw [e1, hvars]; rfl

/-- A law's row, from its walk. -/
theorem law_lift {C : Checked} {os : Os} {n : FuncId} {f : Func} {s : ChangeSpec} {tb : TypeId} (dscs : List Dsc)
    (own : ownKnob C.prog.godebug = none) (started : os.Started) (noInit : C.prog.inits.idxOf? n = none) (hfn : C.prog.funcs[n]? = some f)
    (witness : ∃ (w : World) (tape : Tape) (i : Input), w.os = os ∧ (w.forCall tape i).Shaped C.prog ∧ i.vars = [] ∧ Input.okWide C.prog (w.forCall tape i) .any w.heap.size n i ∧
      s.pre6 enc C.prog f [] false (w.forCall tape i).memory i.args ∧ Assume.holds ({} : Assume) C.prog (lone (Frame.enter C.prog n i.args .normal) [] (w.forCall tape i)))
    (hl : laidOutB C.prog = true) (hpar : okParams C.prog dscs f.params.toList = true) (hres : f.resultTypes = #[tb]) (htb : C.prog.underlying tb = some .bool) (hvars : s.vars = [])
    (hspec : ∀ ds : List (DataW H), ds.length = dscs.length → s.fn H ds = { results := [.lit (.bool true)], args := ds })
    (walk : ∀ (W : World) (args : List Value), ArgsAre W dscs args → Calls C.prog n args.toArray W fun e w' => e = .returned (.bool true) ∧ Ext W w') :
    ReturnsInHanded {} C os n .any (s.pre6 enc C.prog f [] false) (s.post enc C.prog f false true false false) := by
  refine returnsInHanded_of_change own started noInit hfn witness ?_
  intro W base args ds gs before hval hW _ _
  have hW0 := hW
  obtain ⟨p, q, hA, hV, _⟩ := hW
  have ⟨h1, h2⟩ := args_are dscs _ _ _ _ hpar (fun j t v hj hv => hval j t v (by simpa using hj) (by simpa using hv)) hA
  have := walk W args.toList h1
  simp only [Array.toArray_toList] at this
  exact this.mono fun e w' ⟨he, hb⟩ => ⟨_, he, law_post dscs hl hpar hres htb hvars hspec h2 hW0 hb⟩
end

end Go.Proofs.YtaobmiphnpkoiaaDoor
