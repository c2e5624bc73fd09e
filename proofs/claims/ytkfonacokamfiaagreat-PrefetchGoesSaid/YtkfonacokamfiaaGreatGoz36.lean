/- Joined texts, part 36 of what the law stands on: each as its own head says. -/
import Derived.Test.YtkfonacokamfiaaGreatGoz3
import Derived.Test.YtkfonacokamfiaaGreatGoz4
import Derived.Test.YtkfonacokamfiaaGreatGoz13
/- The document's memories, plainly: slots in turn, and the words they hold; when they are the program's. -/
namespace Go.Proofs.YtkfonacokamfiaaGreat
set_option linter.unusedVariables false
set_option linter.unusedSimpArgs false
open Go.RowKit
attribute [local go_sem] wext_cell wext_frozen wext_heap alloc_cell alloc_frozen alloc_heap setCell_cell objCell_cells objFrozen_cells
def wordL (a : Int) : List (Int × Int) → Int
 | [] => 0
 | x :: L => if x.1 = a then x.2 else wordL a L
def setL (a x : Int) : Bool → List (Int × Int) → List (Int × Int)
 | done, [] => if done then [] else [(a, x)]
 | done, y :: L => if y.1 = a then setL a x done L else if !done && decide (a < y.1) then (a, x) :: y :: setL a x true L else y :: setL a x done L
theorem setL_same {a x : Int} {d : Bool} {y : Int × Int} {L : List (Int × Int)} (h : y.1 = a) : setL a x d (y :: L) = setL a x d L := by
 conv => lhs; unfold setL
 rw [if_pos h]
theorem setL_in {a x : Int} {y : Int × Int} {L : List (Int × Int)} (h : y.1 ≠ a) (h2 : a < y.1) : setL a x false (y :: L) = (a, x) :: y :: setL a x true L := by
 conv => lhs; unfold setL
 rw [if_neg h, if_pos (by simp [h2])]
theorem setL_on {a x : Int} {y : Int × Int} {L : List (Int × Int)} (h : y.1 ≠ a) (h2 : ¬ a < y.1) : setL a x false (y :: L) = y :: setL a x false L := by
 conv => lhs; unfold setL
 rw [if_neg h, if_neg (by simp [h2])]
theorem setL_done {a x : Int} {y : Int × Int} {L : List (Int × Int)} (h : y.1 ≠ a) : setL a x true (y :: L) = y :: setL a x true L := by
 conv => lhs; unfold setL
 rw [if_neg h, if_neg (by simp)]
theorem word_set (a x b : Int) : ∀ (L : List (Int × Int)) (d : Bool), wordL b (setL a x d L) = if b = a then (if d then 0 else x) else wordL b L
 | [], true => by simp [setL, wordL]
 | [], false => by
  show wordL b [(a, x)] = _
  unfold wordL
  by_cases h : a = b
  ·rw [if_pos h, if_pos h.symm]; rfl
  ·rw [if_neg h, if_neg (fun e => h e.symm)]; rfl
 | y :: L, d => by
  by_cases h1 : y.1 = a
  ·rw [setL_same h1, word_set a x b L d]
   by_cases h : b = a
   ·rw [if_pos h, if_pos h]
   ·rw [if_neg h, if_neg h]
    conv => rhs; unfold wordL
    rw [if_neg (by omega)]
  ·cases d with
   | true =>
    rw [setL_done h1]
    conv => lhs; unfold wordL
    rw [word_set a x b L true]
    by_cases h : b = a
    ·rw [if_pos h, if_pos h, if_neg (by omega)]
    ·rw [if_neg h, if_neg h]
     conv => rhs; unfold wordL
   | false =>
    by_cases h2 : a < y.1
    ·rw [setL_in h1 h2]
     conv => lhs; unfold wordL
     by_cases h : b = a
     ·rw [if_pos h, if_pos h.symm]; rfl
     ·rw [if_neg h, if_neg (fun e => h e.symm)]
      unfold wordL
      rw [word_set a x b L true, if_neg h]
    ·rw [setL_on h1 h2]
     conv => lhs; unfold wordL
     rw [word_set a x b L false]
     by_cases h : b = a
     ·rw [if_pos h, if_pos h, if_neg (by omega)]
     ·rw [if_neg h, if_neg h]
      conv => rhs; unfold wordL
theorem set_length (a x : Int) : ∀ (L : List (Int × Int)) (d : Bool), (setL a x d L).length ≤ L.length + 1
 | [], true => by simp [setL]
 | [], false => by simp [setL]
 | y :: L, d => by
  by_cases h1 : y.1 = a
  ·rw [setL_same h1]; have := set_length a x L d; simp only [List.length_cons]; omega
  ·cases d with
   | true => rw [setL_done h1]; have := set_length a x L true; simp only [List.length_cons]; omega
   | false =>
    by_cases h2 : a < y.1
    ·rw [setL_in h1 h2]
     have : ∀ L : List (Int × Int), (setL a x true L).length ≤ L.length := fun L => by
      induction L with
      | nil => simp [setL]
      | cons z L ih =>
       by_cases hz : z.1 = a
       ·rw [setL_same hz]; simp only [List.length_cons]; omega
       ·rw [setL_done hz]; simp only [List.length_cons]; omega
     have := this L
     simp only [List.length_cons]; omega
    ·rw [setL_on h1 h2]; have := set_length a x L false; simp only [List.length_cons]; omega
theorem mem_set {a x : Int} {z : Int × Int} : ∀ {L : List (Int × Int)} {d : Bool}, z ∈ setL a x d L → (d = false ∧ z = (a, x)) ∨ (z ∈ L ∧ z.1 ≠ a)
 | [], true, h => by simp [setL] at h
 | [], false, h => by simp [setL] at h; exact .inl ⟨rfl, h⟩
 | y :: L, d, h => by
  by_cases h1 : y.1 = a
  ·rw [setL_same h1] at h
   rcases mem_set h with k | ⟨k1, k2⟩
   ·exact .inl k
   ·exact .inr ⟨List.mem_cons_of_mem _ k1, k2⟩
  ·cases d with
   | true =>
    rw [setL_done h1] at h
    rcases List.mem_cons.1 h with rfl | h
    ·exact .inr ⟨List.mem_cons_self .., h1⟩
    ·rcases mem_set h with ⟨k, _⟩ | ⟨k1, k2⟩
     ·cases k
     ·exact .inr ⟨List.mem_cons_of_mem _ k1, k2⟩
   | false =>
    by_cases h2 : a < y.1
    ·rw [setL_in h1 h2] at h
     rcases List.mem_cons.1 h with rfl | h
     ·exact .inl ⟨rfl, rfl⟩
     rcases List.mem_cons.1 h with rfl | h
     ·exact .inr ⟨List.mem_cons_self .., h1⟩
     ·rcases mem_set h with ⟨k, _⟩ | ⟨k1, k2⟩
      ·cases k
      ·exact .inr ⟨List.mem_cons_of_mem _ k1, k2⟩
    ·rw [setL_on h1 h2] at h
     rcases List.mem_cons.1 h with rfl | h
     ·exact .inr ⟨List.mem_cons_self .., h1⟩
     ·rcases mem_set h with ⟨_, k⟩ | ⟨k1, k2⟩
      ·exact .inl ⟨rfl, k⟩
      ·exact .inr ⟨List.mem_cons_of_mem _ k1, k2⟩
theorem nodup_set (a x : Int) : ∀ (L : List (Int × Int)) (d : Bool), (L.map (·.1)).Nodup → ((setL a x d L).map (·.1)).Nodup
 | [], true, _ => by simp [setL]
 | [], false, _ => by simp [setL]
 | y :: L, d, h => by
  simp only [List.map_cons, List.nodup_cons] at h
  have hne : ∀ (d : Bool), y.1 ≠ a → y.1 ∉ (setL a x d L).map (·.1) := fun d h1 hm => by
   obtain ⟨z, hz, e⟩ := List.mem_map.1 hm
   rcases mem_set hz with ⟨_, k⟩ | ⟨k1, k2⟩
   ·rw [k] at e; exact h1 e.symm
   ·exact h.1 (List.mem_map.2 ⟨z, k1, e⟩)
  by_cases h1 : y.1 = a
  ·rw [setL_same h1]; exact nodup_set a x L d h.2
  ·cases d with
   | true => rw [setL_done h1]; simp only [List.map_cons, List.nodup_cons]; exact ⟨hne true h1, nodup_set a x L true h.2⟩
   | false =>
    by_cases h2 : a < y.1
    ·rw [setL_in h1 h2]
     simp only [List.map_cons, List.nodup_cons, List.mem_cons, not_or]
     refine ⟨⟨fun e => h1 e.symm, fun hm => ?_⟩, hne true h1, nodup_set a x L true h.2⟩
     obtain ⟨z, hz, e⟩ := List.mem_map.1 hm
     rcases mem_set hz with ⟨k, _⟩ | ⟨_, k2⟩
     ·cases k
     ·exact k2 e
    ·rw [setL_on h1 h2]; simp only [List.map_cons, List.nodup_cons]; exact ⟨hne false h1, nodup_set a x L false h.2⟩
theorem word_mem {z : Int × Int} : ∀ {L : List (Int × Int)}, (L.map (·.1)).Nodup → z ∈ L → wordL z.1 L = z.2
 | [], _, h => by cases h
 | y :: L, hn, h => by
  simp only [List.map_cons, List.nodup_cons] at hn
  unfold wordL
  rcases List.mem_cons.1 h with rfl | h
  ·rw [if_pos rfl]
  ·rw [if_neg (fun e => hn.1 (List.mem_map.2 ⟨z, h, e.symm⟩))]
   exact word_mem hn.2 h
structure RefOk (B : Int) (S : List (Int × Int)) (M : Int → Int) : Prop where
 nodup : (S.map (·.1)).Nodup
 good : ∀ z ∈ S, 0 ≤ z.1 ∧ errM B z.1 = 0
 wide : ∀ s, 0 ≤ M s ∧ M s ≤ 18446744073709551615
 agree : ∀ a, 0 ≤ a → errM B a = 0 → wordL a S = M (a / 8)
theorem RefOk.nil (B : Int) : RefOk B [] (fun _ => 0) := ⟨by simp, fun z h => (by cases h), fun _ => ⟨Int.le_refl _, by show (0 : Int) ≤ _; omega⟩, fun _ _ _ => rfl⟩
theorem RefOk.set {B : Int} {S : List (Int × Int)} {M : Int → Int} (h : RefOk B S M) {a x : Int} (h0 : 0 ≤ a) (he : errM B a = 0) (hx0 : 0 ≤ x) (hx1 : x ≤ 18446744073709551615) : RefOk B (setL a x false S) (setM M (a / 8) x) := by
 refine ⟨nodup_set a x S false h.nodup, fun z hz => ?_, setM_range h.wide hx0 hx1, fun b hb0 hb => ?_⟩
 ·rcases mem_set hz with ⟨_, rfl⟩ | ⟨k, _⟩
  ·exact ⟨h0, he⟩
  ·exact h.good z k
 ·rw [word_set]
  have h1 := (errM_zero he).2
  have h2 := (errM_zero hb).2
  unfold setM
  by_cases e : b = a
  ·subst e; rw [if_pos rfl, if_pos rfl]; rfl
  ·rw [if_neg e, if_neg (by omega)]
   exact h.agree b hb0 hb
theorem RefOk.entry {B : Int} {S : List (Int × Int)} {M : Int → Int} (h : RefOk B S M) {z : Int × Int} (hz : z ∈ S) : 0 ≤ z.1 ∧ errM B z.1 = 0 ∧ M (z.1 / 8) = z.2 :=
 ⟨(h.good z hz).1, (h.good z hz).2, by rw [← h.agree z.1 (h.good z hz).1 (h.good z hz).2]; exact word_mem h.nodup hz⟩
theorem RefOk.word_le {B : Int} {S : List (Int × Int)} {M : Int → Int} (h : RefOk B S M) {z : Int × Int} (hz : z ∈ S) : (0 ≤ z.1 ∧ z.1 ≤ 4194303) ∧ 0 ≤ z.2 ∧ z.2 ≤ 18446744073709551615 := by
 obtain ⟨h1, h2, h3⟩ := h.entry hz
 exact ⟨⟨h1, errM_le h2⟩, h3 ▸ h.wide _⟩
end Go.Proofs.YtkfonacokamfiaaGreat
/- The document's memory: its value; Size, Word, Peek. -/
namespace Go.Proofs.YtkfonacokamfiaaGreat
set_option linter.unusedVariables false
set_option linter.unusedSimpArgs false
open Go.RowKit
attribute [local go_sem] wext_cell wext_frozen wext_heap alloc_cell alloc_frozen alloc_heap setCell_cell objCell_cells objFrozen_cells
def rowW (S : List (Int × Int)) : List Value := S.flatMap fun z => [.int .u64 z.1, .int .u64 z.2]
def wAt (S : List (Int × Int)) (j : Nat) : Int × Int := S.getD j (0, 0)
theorem rowW_append (S T : List (Int × Int)) : rowW (S ++ T) = rowW S ++ rowW T := by simp [rowW]
theorem rowW_length (S : List (Int × Int)) : (rowW S).length = S.length * 2 := by
 induction S with
 | nil => rfl
 | cons a S ih => simp [rowW] at ih ⊢; omega
theorem rowW_at : ∀ (S : List (Int × Int)) (i : Nat), i < S.length → (rowW S)[i * 2]? = some (.int .u64 (wAt S i).1) ∧ (rowW S)[i * 2 + 1]? = some (.int .u64 (wAt S i).2)
 | [], i, h => by simp at h
 | a :: S, 0, h => ⟨rfl, rfl⟩
 | a :: S, i + 1, h => by
  have ⟨h1, h2⟩ := rowW_at S i (by simpa using h)
  have e : rowW (a :: S) = [.int .u64 a.1, .int .u64 a.2] ++ rowW S := rfl
  have e2 : wAt (a :: S) (i + 1) = wAt S i := by simp [wAt, List.getD]
  rw [e, e2]
  refine ⟨?_, ?_⟩
  ·rw [List.getElem?_append_right (by simp; omega), ← h1]; congr 1; simp; omega
  ·rw [List.getElem?_append_right (by simp; omega), ← h2]; congr 1; simp; omega
def SAt (w : World) (sa : Option Addr) (sc : Nat) (S : List (Int × Int)) : Prop := Owns w 113 2 (.slice sa S.length sc) S.length (rowW S)
theorem SAt.ext {w w' : World} {sa : Option Addr} {sc : Nat} {S : List (Int × Int)} (h : SAt w sa sc S) (k : Ext w w') : SAt w' sa sc S := Owns.ext h k
theorem SAt.at {w : World} {sa : Option Addr} {sc : Nat} {S : List (Int × Int)} (h : SAt w sa sc S) {i : Nat} (hi : i < S.length) :
  ∃ g, sa = some ⟨g, 0, none⟩ ∧ g < w.heap.size ∧ w.cell? ⟨g, i * 2, none⟩ = some (.int .u64 (wAt S i).1) ∧ w.cell? ⟨g, i * 2 + 1, none⟩ = some (.int .u64 (wAt S i).2) := by
 obtain ⟨g, hg⟩ : ∃ g, sa = some ⟨g, 0, none⟩ := by
  rcases h.2 with ⟨h1, h0⟩ | ⟨g, _, _, he, _⟩
  ·omega
  ·exact ⟨g, by injection he⟩
 subst hg
 have ⟨h1, h2⟩ := rowW_at S i hi
 exact ⟨g, rfl, h.lt g rfl, h.cells (g := g) rfl _ _ h1, h.cells (g := g) rfl _ _ h2⟩
theorem limB_pow {B : Int} (h : 14 ≤ B ∧ B ≤ 22) : pow2 B = limB B := by
 rcases B_cases h with rfl | rfl | rfl | rfl | rfl | rfl | rfl | rfl | rfl <;> decide
section
variable (B : Int) (sa ta : Option Addr) (n sc k tc : Nat) (w : World)
set_option maxHeartbeats 1000000 in
theorem rSize_c (hB : 14 ≤ B ∧ B ≤ 22) : Calls Tryz.prog 76 #[.agg #[.int .i64 B, .slice sa n sc, .slice ta k tc]] w fun e w' => e = .returned (.int .u64 (limB B)) ∧ Ext w w' := by
 have HB := Lib.hid (limB_pow hB)
 have ⟨hB0, hB1⟩ := hB
 clear hB
 go_enter Tryz.func76, Tryz.ntmps76
 go_wp2
 refine wp_gen ?_; intro W hW
 have hE : Ext w W := by rw [hW]; exact (by repeat (first | exact Ext.refl _ | assumption | refine Ext.alloc ?_ _ | refine Ext.drew ?_ | refine Ext.setCell ?_ (by first | (simp; done) | (dsimp only; omega)) _ | refine Ext.trans ?_ (by assumption)))
 have hb0 : W.heap[w.heap.size]? = some (.cells #[.int .i64 B, .slice sa n sc, .slice ta k tc] 41 (0, 0)) := by rw [hW]; exact alloc_same ..
 have c0 := (heap_cell hb0 0).trans rfl
 have hl := heap_lt hb0
 have HE := Lib.hid hE
 clear hW hE hb0
 go_loop [3, 4] (fun x i => ∃ j : Nat, (j : Int) ≤ B ∧ i = .int .i64 j ∧ x = .int .u64 (pow2 j)) (fun _ i => (B - intOf i).toNat)
 case atStart => exact ⟨0, by omega, rfl, rfl⟩
 case round =>
  obtain ⟨j, hj, rfl, rfl⟩ := hrel
  by_cases hlt : (j : Int) < B
  ·go_wp2
   go_round
   case rel => exact ⟨j + 1, by omega, by go_num, by rw [pow2_succ _ (by omega)]; rfl⟩
   case measure => simp [intOf]; omega
  ·have : B = j := by omega
   have HN := Lib.hid this
   clear this
   go_wp2
   go_ret
   exact ⟨by rw [← HB.out, HN.out]; rfl, HE.out⟩
end
set_option maxHeartbeats 1000000 in
theorem rWord_c (B : Int) (sa ta : Option Addr) (S : List (Int × Int)) (sc k tc : Nat) (a : Int) (w : World) (h : SAt w sa sc S) (hl : S.length ≤ 1000000) :
  Calls Tryz.prog 77 #[.agg #[.int .i64 B, .slice sa S.length sc, .slice ta k tc], .int .u64 a] w fun e w' => e = .returned (.int .u64 (wordL a S)) ∧ Ext w w' := by
 have HO := Lib.hid h
 clear h
 go_enter Tryz.func77, Tryz.ntmps77
 go_wp2
 refine wp_gen ?_; intro W hW
 have hE : Ext w W := by rw [hW]; exact (by repeat (first | exact Ext.refl _ | assumption | refine Ext.alloc ?_ _ | refine Ext.drew ?_ | refine Ext.setCell ?_ (by first | (simp; done) | (dsimp only; omega)) _ | refine Ext.trans ?_ (by assumption)))
 have hb0 : W.heap[w.heap.size]? = some (.cells #[.int .i64 B, .slice sa S.length sc, .slice ta k tc] 41 (0, 0)) := by rw [hW]; exact alloc_same ..
 have c1 := (heap_cell hb0 1).trans rfl
 have hlb := heap_lt hb0
 have HE := Lib.hid hE
 have HW := Lib.hid (HO.out.ext hE)
 have hfull : Hid (wordL a S = wordL a (S.drop 0)) := Lib.hid (by simp)
 clear hW hE hb0
 go_loop [5] (fun i => ∃ j : Nat, j ≤ S.length ∧ i = .int .i64 j ∧ Hid (wordL a S = wordL a (S.drop j))) (fun i => S.length - (intOf i).toNat)
 case atStart => exact ⟨0, by omega, rfl, hfull⟩
 case round =>
  obtain ⟨j, hj, rfl, hR⟩ := hrel
  by_cases hlt : j < S.length
  ·obtain ⟨g, rfl, hg, d0, d1⟩ := HW.out.at hlt
   have hd : S.drop j = wAt S j :: S.drop (j + 1) := by
    rw [List.drop_eq_getElem_cons hlt]
    congr 1
    simp [wAt, List.getD, hlt]
   have hst : wordL a S = if (wAt S j).1 = a then (wAt S j).2 else wordL a (S.drop (j + 1)) := by
    rw [hR.out, hd]
    conv => lhs; unfold wordL
   generalize wAt S j = z at d0 d1 hst
   obtain ⟨z1, z2⟩ := z
   dsimp only at d0 d1 hst
   have HS := Lib.hid hst
   clear hst hd
   by_cases hz : z1 = a
   ·have HQ : Hid (wordL a S = z2) := Lib.hid (by rw [HS.out, if_pos hz])
    subst hz
    go_wp2
    all_goals
     (try go_ret)
     exact ⟨by rw [HQ.out]; rfl, HE.out⟩
   ·have HQ : Hid (wordL a S = wordL a (S.drop (j + 1))) := Lib.hid (by rw [HS.out, if_neg hz])
    have hzb : (z1 == a) = false := by simpa using hz
    clear hz
    go_wp2
    go_round
    case rel => exact ⟨j + 1, by omega, by go_num, HQ⟩
    case measure => simp [intOf]; omega
  ·have HQ : Hid (wordL a S = 0) := Lib.hid (by rw [hR.out, List.drop_of_length_le (by omega)]; rfl)
   go_wp2
   all_goals
    (try go_ret)
    exact ⟨by rw [HQ.out]; rfl, HE.out⟩
set_option maxHeartbeats 1000000 in
theorem rPeek_c (B : Int) (hB : 14 ≤ B ∧ B ≤ 22) (sa ta : Option Addr) (S : List (Int × Int)) (sc k tc : Nat) (a : Int) (w : World) (h : SAt w sa sc S) (hl : S.length ≤ 1000000) (h0 : 0 ≤ a) (h1 : a ≤ 18446744073709551615) :
  Calls Tryz.prog 42 #[.agg #[.int .i64 B, .slice sa S.length sc, .slice ta k tc], .int .u64 a] w fun e w' => e = .returned (.tuple #[.int .u64 (if errM B a = 0 then wordL a S else 0), .int .i64 (errM B a)]) ∧ Ext w w' := by
 have HO := Lib.hid h
 have HS := Lib.hid (fun w => rSize_c B sa ta S.length sc k tc w hB)
 have HW := Lib.hid (fun w h => rWord_c B sa ta S sc k tc a w h hl)
 have hlim := limB_le B
 have hB' := hB
 clear h hB
 obtain ⟨y, hy⟩ : ∃ y, (if errM B a = 0 then wordL a S else 0) = y := ⟨_, rfl⟩
 rw [hy]
 have HY := Lib.hid hy
 clear hy
 have he : Hid (errM B a = if a < limB B then (if a % 8 = 0 then 0 else 3) else 2) := Lib.hid rfl
 generalize errM B a = er at he HY ⊢
 generalize wordL a S = x at HW HY
 generalize limB B = lim at HS hlim he
 by_cases hq : a < lim
 ·by_cases hq8 : a % 8 = 0
  ·have HE : Hid (er = 0) := Lib.hid (by rw [he.out, if_pos hq, if_pos hq8])
   go_enter Tryz.func42, Tryz.ntmps42
   go_wp2_with (first | (go_at_call 76; refine (HS.out _).mono ?_; rintro e w1 ⟨rfl, hb1⟩; have ⟨hc, hf, hh, hs⟩ := hb1.facts; try simp only [World.size_alloc, World.size_setCell, World.size_drew] at hs) | (go_at_call 77; refine (HW.out _ (HO.out.ext (Ext.trans (by repeat (first | exact Ext.refl _ | assumption | refine Ext.alloc ?_ _ | refine Ext.drew ?_ | refine Ext.setCell ?_ (by first | (simp; done) | (dsimp only; omega)) _ | refine Ext.trans ?_ (by assumption))) hb1))).mono ?_; rintro e w2 ⟨rfl, hb2⟩))
   refine bodyPost_ret (by simp [results, Tryz.results42, go_sem, ↓IntWalk.iteOmega, *]; try rfl) rfl ⟨by rw [← HY.out, HE.out]; rfl, Ext.trans (Ext.trans (by repeat (first | exact Ext.refl _ | assumption | refine Ext.alloc ?_ _ | refine Ext.drew ?_ | refine Ext.setCell ?_ (by first | (simp; done) | (dsimp only; omega)) _ | refine Ext.trans ?_ (by assumption))) hb1) hb2⟩
  ·have HE : Hid (er = 3) := Lib.hid (by rw [he.out, if_pos hq, if_neg hq8])
   go_enter Tryz.func42, Tryz.ntmps42
   go_wp2_with (first | (go_at_call 76; refine (HS.out _).mono ?_; rintro e w1 ⟨rfl, hb1⟩; have ⟨hc, hf, hh, hs⟩ := hb1.facts; try simp only [World.size_alloc, World.size_setCell, World.size_drew] at hs))
   refine bodyPost_ret (by simp [results, Tryz.results42, go_sem, ↓IntWalk.iteOmega, *]; try rfl) rfl ⟨by rw [← HY.out, HE.out]; rfl, Ext.trans (by repeat (first | exact Ext.refl _ | assumption | refine Ext.alloc ?_ _ | refine Ext.drew ?_ | refine Ext.setCell ?_ (by first | (simp; done) | (dsimp only; omega)) _ | refine Ext.trans ?_ (by assumption))) hb1⟩
 ·have HE : Hid (er = 2) := Lib.hid (by rw [he.out, if_neg hq])
  go_enter Tryz.func42, Tryz.ntmps42
  go_wp2_with (first | (go_at_call 76; refine (HS.out _).mono ?_; rintro e w1 ⟨rfl, hb1⟩; have ⟨hc, hf, hh, hs⟩ := hb1.facts; try simp only [World.size_alloc, World.size_setCell, World.size_drew] at hs))
  refine bodyPost_ret (by simp [results, Tryz.results42, go_sem, ↓IntWalk.iteOmega, *]; try rfl) rfl ⟨by rw [← HY.out, HE.out]; rfl, Ext.trans (by repeat (first | exact Ext.refl _ | assumption | refine Ext.alloc ?_ _ | refine Ext.drew ?_ | refine Ext.setCell ?_ (by first | (simp; done) | (dsimp only; omega)) _ | refine Ext.trans ?_ (by assumption))) hb1⟩
end Go.Proofs.YtkfonacokamfiaaGreat
/- The document's memory: Load, Store. -/
namespace Go.Proofs.YtkfonacokamfiaaGreat
set_option linter.unusedVariables false
set_option linter.unusedSimpArgs false
open Go.RowKit
attribute [local go_sem] wext_cell wext_frozen wext_heap alloc_cell alloc_frozen alloc_heap setCell_cell objCell_cells objFrozen_cells
def TrAt (w : World) (ta : Option Addr) (tc : Nat) (T : List Int) : Prop := Owns w 23 1 (.slice ta T.length tc) T.length (T.map (.int .u64 ·))
theorem TrAt.ext {w w' : World} {ta : Option Addr} {tc : Nat} {T : List Int} (h : TrAt w ta tc T) (k : Ext w w') : TrAt w' ta tc T := Owns.ext h k
def FreshT (w : World) (ta0 ta : Option Addr) : Prop := ∀ a, ta = some a → ta0 = some a ∨ w.heap.size ≤ a.block
def EndLoad (ta0 : Option Addr) (B : Int) (sa : Option Addr) (n sc : Nat) (T : List Int) (x er : Int) (w : World) (e : Ending) (w' : World) : Prop :=
 ∃ ta tc, e = .returned (.tuple #[.agg #[.int .i64 B, .slice sa n sc, .slice ta T.length tc], .int .u64 x, .int .i64 er]) ∧ TrAt w' ta tc T ∧ Ext w w' ∧ FreshT w ta0 ta
set_option maxHeartbeats 2000000 in
set_option maxRecDepth 20000 in
theorem rLoad_bad (B : Int) (hB : 14 ≤ B ∧ B ≤ 22) (sa ta : Option Addr) (S : List (Int × Int)) (T : List Int) (sc tc : Nat) (a : Int) (w : World) (h : SAt w sa sc S) (hT : TrAt w ta tc T) (hl : S.length ≤ 1000000) (h0 : 0 ≤ a) (h1 : a ≤ 18446744073709551615) (he : errM B a ≠ 0) :
  Calls Tryz.prog 58 #[.agg #[.int .i64 B, .slice sa S.length sc, .slice ta T.length tc], .int .u64 a] w (EndLoad ta B sa S.length sc T 0 (errM B a) w) := by
 have hp := fun w h => rPeek_c B hB sa ta S sc T.length tc a w h hl h0 h1
 rw [if_neg he] at hp
 have HP := Lib.hid hp
 have HS := Lib.hid h
 have HT := Lib.hid hT
 generalize hE : EndLoad ta B sa S.length sc T 0 (errM B a) w = E
 have HE := Lib.hid hE
 have hne : (errM B a != 0) = true := by simpa using he
 generalize errM B a = er at HP HE hne
 clear hE hp he h hT hB
 go_enter Tryz.func58, Tryz.ntmps58
 go_wp2_with (first | (go_at_call 42; refine (HP.out _ (HS.out.ext (by repeat (first | exact Ext.refl _ | assumption | refine Ext.alloc ?_ _ | refine Ext.drew ?_ | refine Ext.setCell ?_ (by first | (simp; done) | (dsimp only; omega)) _ | refine Ext.trans ?_ (by assumption))))).mono ?_; rintro e w1 ⟨rfl, hb1⟩; have ⟨hc, hf, hh, hs⟩ := hb1.facts; try simp only [World.size_alloc, World.size_setCell, World.size_drew] at hs))
 have B1 := (hb1.block (w.heap.size + 1) (by simp)).trans (alloc_same1 ..)
 have E1 : Ext w w1 := Ext.trans (by repeat (first | exact Ext.refl _ | assumption | refine Ext.alloc ?_ _ | refine Ext.drew ?_ | refine Ext.setCell ?_ (by first | (simp; done) | (dsimp only; omega)) _ | refine Ext.trans ?_ (by assumption))) hb1
 refine post_gen (fun U => U.heap[w.heap.size + 1]? = some (.cells #[.int .i64 B, .slice sa S.length sc, .slice ta T.length tc] 41 (0, 0)) ∧ Ext w U) ⟨setCell_heap_same (setCell_heap_same (setCell_heap_same B1)), Ext.setCell (Ext.setCell (Ext.setCell E1 (by simp) _) (by simp) _) (by simp) _⟩ ?_
 clear hc hf hh hs hb1 B1 E1
 rintro U ⟨m3, e3⟩
 have v0 := (heap_cell m3 0).trans rfl
 have v1 := (heap_cell m3 1).trans rfl
 have v2 := (heap_cell m3 2).trans rfl
 have HE3 := Lib.hid e3
 clear m3 e3
 refine bodyPost_ret (by simp [results, Tryz.results58, go_sem, ↓IntWalk.iteOmega, *]; try rfl) rfl (by rw [← HE.out]; exact ⟨ta, tc, rfl, HT.out.ext HE3.out, HE3.out, fun a h => .inl h⟩)
set_option maxHeartbeats 2000000 in
set_option maxRecDepth 20000 in
theorem rLoad_ok (B : Int) (hB : 14 ≤ B ∧ B ≤ 22) (sa ta : Option Addr) (S : List (Int × Int)) (T : List Int) (sc tc : Nat) (a : Int) (w : World) (h : SAt w sa sc S) (hT : TrAt w ta tc T) (hl : S.length ≤ 1000000) (hlT : T.length ≤ 1000000) (h0 : 0 ≤ a) (h1 : a ≤ 18446744073709551615) (he : errM B a = 0) :
  Calls Tryz.prog 58 #[.agg #[.int .i64 B, .slice sa S.length sc, .slice ta T.length tc], .int .u64 a] w (EndLoad ta B sa S.length sc (T ++ [a]) (wordL a S) 0 w) := by
 have hp := fun w h => rPeek_c B hB sa ta S sc T.length tc a w h hl h0 h1
 rw [if_pos he, he] at hp
 have HP := Lib.hid hp
 have HS := Lib.hid h
 have HT := Lib.hid hT
 generalize hE : EndLoad ta B sa S.length sc (T ++ [a]) (wordL a S) 0 w = E
 have HE := Lib.hid hE
 generalize wordL a S = x at HP HE
 clear hE hp he h hT hB
 go_enter Tryz.func58, Tryz.ntmps58
 go_upto_region 4 with (first | (go_at_call 42; refine (HP.out _ (HS.out.ext (by repeat (first | exact Ext.refl _ | assumption | refine Ext.alloc ?_ _ | refine Ext.drew ?_ | refine Ext.setCell ?_ (by first | (simp; done) | (dsimp only; omega)) _ | refine Ext.trans ?_ (by assumption))))).mono ?_; rintro e w1 ⟨rfl, hb1⟩; have ⟨hc, hf, hh, hs⟩ := hb1.facts; try simp only [World.size_alloc, World.size_setCell, World.size_drew] at hs))
 have hV0 := (hb1.block w.heap.size (by simp; omega)).trans ((alloc_other _ _ (by simp)).trans (alloc_same ..))
 have hV1 := (hb1.block (w.heap.size + 1) (by simp)).trans (alloc_same1 ..)
 have E1 : Ext w w1 := Ext.trans (by repeat (first | exact Ext.refl _ | assumption | refine Ext.alloc ?_ _ | refine Ext.drew ?_ | refine Ext.setCell ?_ (by first | (simp; done) | (dsimp only; omega)) _ | refine Ext.trans ?_ (by assumption))) hb1
 have hbs : w.heap.size ≤ w.heap.size := Nat.le_refl _
 obtain ⟨pb, hpb⟩ : ∃ pb, w.heap.size = pb := ⟨_, rfl⟩
 have h01 : w.heap.size ≤ pb := by omega
 clear hc hf hh hs hb1 hbs
 rw [hpb] at hV0 hV1
 rw [hpb]
 have EV := Lib.hid E1
 have V0 := Lib.hid hV0
 have V1 := Lib.hid hV1
 have x2 := (heap_cell hV0 2).trans rfl
 have hl0 := heap_lt hV0
 have hl1 := heap_lt hV1
 have T1 := Lib.hid (HT.out.ext (E1.alloc (.cells #[] 23)))
 have TN : Hid (∀ u ∈ T.map (Value.int .u64 ·), u.oneCell' = true) := Lib.hid (by simp [Value.oneCell'])
 clear hpb E1 hV0 hV1
 go_upto_region 5 with (first | (at_builtin; refine wpList_append_two rfl _ _ _ _ 1 8 wordRow rfl _ rfl 0 [] (Owns.fresh (c := #[]) (by rw [alloc_heap]; simp)) _ rfl T.length _ T1.out TN.out (by unfold maxLen; omega) (by omega) ?_; intro v2 w2 q1 q2 q3; replace q2 : (w1.alloc (.cells #[] 23)).grownBy w2 (some w1.heap.size) := q2; replace q3 : v2.ownBlock = some w1.heap.size ∨ v2.ownBlock = some (w1.alloc (.cells #[] 23)).heap.size := q3; obtain ⟨a2, c2, rfl, -, -⟩ := q1.form; simp only [Act.put, Array.set!_eq_setIfInBounds, List.setIfInBounds_toArray, List.set_cons_succ, List.set_cons_zero]))
 have hk : ∀ b o, b < w1.heap.size → w1.heap[b]? = some o → w2.heap[b]? = some o := fun b o hb ho => ((q2.block b (by simp; omega) (fun e => by simp at e; omega)).trans (alloc_other _ _ hb)).trans ho
 have B0 := Lib.hid (hk _ _ hl0 V0.out)
 have B1 := Lib.hid (hk _ _ hl1 V1.out)
 have E2 : Hid (Ext w w2) := Lib.hid (Keeps.to_ext (F := []) (Ext.refl w) ((Keeps.of_ext (EV.out.alloc _)).grown q2 (fun x hx => .inr (by cases hx; exact EV.out.size))) (by simp))
 have O2 : Hid (Owns w2 23 1 (.slice a2 T.length c2) T.length (T.map (.int .u64 ·))) := Lib.hid (by simpa using q1)
 have G2 : Hid (∀ g, (Value.slice a2 T.length c2).ownBlock = some g → w1.heap.size ≤ g) := Lib.hid (fun g hg => by
  simp only [Nat.zero_add] at q3
  rcases q3 with q3 | q3 <;> rw [q3] at hg <;> cases hg <;> simp)
 have hz : 0 + T.length = T.length := by omega
 rw [hz]
 have A2 := Lib.hid (O2.out.ext ((Ext.refl w2).alloc (.cells #[.int .u64 a] 23)))
 have hs12 : w1.heap.size ≤ w2.heap.size := by have := q2.size; simp at this; omega
 clear hz q1 q2 q3 hk x2 T1
 go_upto_region 6 with (first | (at_builtin; refine wpList_append_owns rfl _ _ _ _ 1 8 wordRow rfl _ rfl T.length _ A2.out _ 1 1 rfl [.int .u64 a] rfl (fun j u hu => by rw [add0, heap_cell (alloc_same w2 _) j]; simpa using hu) (by simp [Value.oneCell']) (by unfold maxLen; omega) (by omega) ?_; intro v3 w3 q1 q2 q3; replace q2 : (w2.alloc (.cells #[.int .u64 a] 23)).grownBy w3 (Value.slice a2 T.length c2).ownBlock := q2; replace q3 : v3.ownBlock = (Value.slice a2 T.length c2).ownBlock ∨ v3.ownBlock = some (w2.alloc (.cells #[.int .u64 a] 23)).heap.size := q3; obtain ⟨a3, c3, rfl, -, -⟩ := q1.form; simp only [Act.put, Array.set!_eq_setIfInBounds, List.setIfInBounds_toArray, List.set_cons_succ, List.set_cons_zero]))
 have hk : ∀ b o, b < w1.heap.size → w2.heap[b]? = some o → w3.heap[b]? = some o := fun b o hb ho => ((q2.block b (by simp; omega) (fun e => by have := G2.out b e.symm; omega)).trans (alloc_other _ _ (by omega))).trans ho
 have C0 := hk _ _ hl0 B0.out
 have C1 := hk _ _ hl1 B1.out
 have E3 : Hid (Ext w w3) := Lib.hid (Keeps.to_ext (F := []) (Ext.refl w) ((Keeps.of_ext (E2.out.alloc _)).grown q2 (fun x hx => .inr (Nat.le_trans EV.out.size (G2.out x hx)))) (by simp))
 have O3 : Hid (Owns w3 23 1 (.slice a3 (T.length + 1) c3) (T.length + 1) (T.map (.int .u64 ·) ++ [.int .u64 a])) := Lib.hid q1
 have G3 : Hid (∀ g, (Value.slice a3 (T.length + 1) c3).ownBlock = some g → w1.heap.size ≤ g) := Lib.hid (fun g hg => by
  rcases q3 with q3 | q3 <;> rw [q3] at hg
  ·exact G2.out g hg
  ·cases hg; simp; omega)
 have z0 := (heap_cell C0 0).trans rfl
 have z1 := (heap_cell C0 1).trans rfl
 have z2 := (heap_cell C0 2).trans rfl
 have y0 := (heap_cell C1 0).trans rfl
 have y1 := (heap_cell C1 1).trans rfl
 have y2 := (heap_cell C1 2).trans rfl
 have zf := frozen_of C0
 have yf := frozen_of C1
 have hl03 := heap_lt C0
 have hl13 := heap_lt C1
 have D0 := Lib.hid C0
 have D1 := Lib.hid C1
 clear hk q1 q2 q3 C0 C1 A2
 go_wp2
 refine post_gen (fun U => U.heap[pb + 1]? = some (.cells #[.int .i64 B, .slice sa S.length sc, .slice a3 (T.length + 1) c3] 41 (0, 0)) ∧ TrAt U a3 c3 (T ++ [a]) ∧ Ext w U) ⟨?_, ?_, ?_⟩ ?_
 ·exact setCell_heap_same (setCell_heap_same (setCell_heap_same ((setCell_heap _ _ _ _ _ (by omega)).trans D1.out)))
 ·have : TrAt w3 a3 c3 (T ++ [a]) := by have := O3.out; unfold TrAt; simpa using this
  refine Owns.keep this fun g hg => ?_
  have := G3.out g (by simpa [Value.ownBlock] using hg)
  rw [setCell_heap _ _ _ _ _ (by omega), setCell_heap _ _ _ _ _ (by omega), setCell_heap _ _ _ _ _ (by omega), setCell_heap _ _ _ _ _ (by omega)]
 ·exact Ext.setCell (Ext.setCell (Ext.setCell (Ext.setCell E3.out (by dsimp only; omega) _) (by dsimp only; omega) _) (by dsimp only; omega) _) (by dsimp only; omega) _
 clear z0 z1 z2 zf yf y0 y1 y2
 rintro U ⟨m3, t3, e3⟩
 have v0 := (heap_cell m3 0).trans rfl
 have v1 := (heap_cell m3 1).trans rfl
 have v2 := (heap_cell m3 2).trans rfl
 have HE3 := Lib.hid e3
 have HT3 := Lib.hid t3
 clear m3 e3 t3
 refine bodyPost_ret (by simp [results, Tryz.results58, go_sem, ↓IntWalk.iteOmega, *]; try rfl) rfl (by rw [← HE.out]; exact ⟨a3, c3, by rw [List.length_append]; rfl, HT3.out, HE3.out, fun a h => .inr (by subst h; have := G3.out a.block rfl; have := EV.out.size; omega)⟩)
end Go.Proofs.YtkfonacokamfiaaGreat
