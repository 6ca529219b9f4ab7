/- Rows of feuds by their cells. -/
import Derived.Test.YtpmjmhdofjbcbaaFS
import Derived.Test.YtpmjmhdofjbcbaaFC
namespace Go.Proofs.Ytpmjmhdofjbcbaa.H
open Go.Shelf Go.RowKit Go.Proofs.Ytpmjmhdofjbcbaa.QA Go.Proofs.YtpmjmhdofjbcbaaW.PrintWords Go.Proofs.YtpmjmhdofjbcbaaW.PrintLast Go.Proofs.YtpmjmhdofjbcbaaW.PrintMore
set_option linter.unusedVariables false
set_option linter.unusedSimpArgs false
instance : Inhabited S43 := ⟨z43⟩
def encK (f : S43) : List Value := [.int .i64 f.f0, .int .i64 f.f1]
theorem encK_len (f : S43) : (encK f).length = 2 := rfl
theorem encK_one (f : S43) : ∀ v ∈ encK f, v.oneCell' = true := by
  intro v hv
  simp only [encK, List.mem_cons, List.not_mem_nil, or_false] at hv
  rcases hv with rfl | rfl <;> rfl
/-- A block that bears a row of feuds. -/
def RowF (w : World) (g cap : Nat) (l : List S43) : Prop := ∃ cur : Array Value, w.heap[g]? = some (.cells cur 43 (0, 0)) ∧ l.length ≤ cap ∧ cap ≤ maxLen ∧ cur.size = cap * 2 ∧ ∀ j f, l[j]? = some f → cur[j * 2]? = some (.int .i64 f.f0) ∧ cur[j * 2 + 1]? = some (.int .i64 f.f1)
theorem rowF_of {w : World} {base n cap g : Nat} {ok : Nat → Prop} {l : List S43} (h : Kd.R k43 43 w base ok (.slice (some ⟨g, 0, none⟩) n cap) l) : n = l.length ∧ ok g ∧ base ≤ g ∧ RowF w g cap l := by
  have hn := (Kd.R_reads' h).1
  obtain ⟨h0, inner, ho, hr⟩ := h
  refine ⟨hn, h0 g rfl, own_base ho g rfl, ?_⟩
  rcases ho.2 with ⟨e, _⟩ | ⟨g1, cap1, cur, e, hb, hh, hnc, hcm, hcs, ht⟩
  · cases e
  injection e with ea en ec
  injection ea with ea
  injection ea with eg
  subst eg; subst ec
  refine ⟨cur, hh, by omega, hcm, hcs, fun j f hf => ?_⟩
  have hj := (List.getElem?_eq_some_iff.1 hf).1
  have hM := k43_openM (hr.2 j f hf)
  have e0 : ((inner.drop (j * 2)).take 2)[0]? = some (.int .i64 f.f0) := by rw [show (inner.drop (j * 2)).take 2 = (inner.drop (j * k43.sz)).take k43.sz from rfl, hM]; rfl
  have e1 : ((inner.drop (j * 2)).take 2)[1]? = some (.int .i64 f.f1) := by rw [show (inner.drop (j * 2)).take 2 = (inner.drop (j * k43.sz)).take k43.sz from rfl, hM]; rfl
  rw [List.getElem?_take, if_pos (by omega), List.getElem?_drop, ← ht, List.getElem?_take] at e0 e1
  split at e0
  · split at e1
    · exact ⟨by simpa using e0, by simpa using e1⟩
    · cases e1
  · cases e0
theorem rowF_to {w : World} {base cap g : Nat} {ok : Nat → Prop} {l : List S43} (h : RowF w g cap l) (hok : ok g) (hb : base ≤ g) : Kd.R k43 43 w base ok (.slice (some ⟨g, 0, none⟩) l.length cap) l := by
  obtain ⟨cur, hh, hlc, hcm, hcs, hc⟩ := h
  refine ⟨fun k hk => ?_, cur.toList.take (l.length * 2), ⟨?_, .inr ⟨g, cap, cur, rfl, hb, hh, hlc, hcm, hcs, rfl⟩⟩, ?_, fun j f hf => ?_⟩
  · injection hk with hk
    rw [← hk]; exact hok
  · have := Array.length_toList (xs := cur); rw [List.length_take, this, hcs, ksz43]; omega
  · have := Array.length_toList (xs := cur); rw [List.length_take, this, hcs, ksz43]; omega
  · obtain ⟨c0, c1⟩ := hc j f hf
    have hj := (List.getElem?_eq_some_iff.1 hf).1
    have e : ((cur.toList.take (l.length * 2)).drop (j * k43.sz)).take k43.sz = [.int .i64 f.f0, .int .i64 f.f1] := by
      rw [ksz43]
      apply List.ext_getElem?
      intro i
      rw [List.getElem?_take]
      match i with
      | 0 => rw [if_pos (by omega), List.getElem?_drop, List.getElem?_take, if_pos (by omega)]; simpa using c0
      | 1 => rw [if_pos (by omega), List.getElem?_drop, List.getElem?_take, if_pos (by omega)]; simpa using c1
      | i + 2 => rw [if_neg (by omega)]; simp
    rw [e]
    exact k43_mkM _ _ _ f
theorem rowF_move {w w' : World} {g cap : Nat} {l : List S43} (h : RowF w g cap l) (e : w'.heap[g]? = w.heap[g]?) : RowF w' g cap l := by
  obtain ⟨cur, hh, r⟩ := h
  exact ⟨cur, e.trans hh, r⟩
open Go.Sort in
theorem flat_cell (l : List S43) (t : Nat) (ht : t < l.length * 2) : (flatK encK 2 l.toArray)[t]! = if t % 2 = 0 then Value.int .i64 (l.getD (t / 2) z43).f0 else Value.int .i64 (l.getD (t / 2) z43).f1 := by
  rw [get_flatK _ _ _ _ (by simpa using ht)]
  have e : l.toArray[t / 2]! = l.getD (t / 2) z43 := by
    have : t / 2 < l.length := by omega
    simp [this]
  rw [e]
  rcases Nat.mod_two_eq_zero_or_one t with h | h
  · rw [h]; rfl
  · rw [h]; rfl
open Go.Sort in
theorem rowF_holds {w : World} {g cap : Nat} {l : List S43} (h : RowF w g cap l) : HoldsK encK 2 w g 0 l.toArray := by
  obtain ⟨cur, hh, hlc, hcm, hcs, hc⟩ := h
  intro t ht
  rw [size_flatK] at ht
  have ht2 : t < l.length * 2 := by simpa using ht
  obtain ⟨c0, c1⟩ := hc (t / 2) (l.getD (t / 2) z43) (by rw [List.getD_eq_getElem?_getD, List.getElem?_eq_getElem (show t / 2 < l.length by omega)]; rfl)
  refine ⟨?_, blk_frozen hh _⟩
  rw [flat_cell l t ht2, Nat.zero_add]
  have hb := blk_cell hh t
  rw [hb]
  rcases Nat.mod_two_eq_zero_or_one t with e | e
  · rw [if_pos e, show t = t / 2 * 2 by omega]; rw [c0, show t / 2 * 2 / 2 = t / 2 by omega]; rfl
  · rw [if_neg (by omega)]
    have : t = t / 2 * 2 + 1 := by omega
    rw [show cur[t]? = cur[t / 2 * 2 + 1]? from by rw [← this], c1]; rfl
open Go.Sort in
theorem rowF_sort {w : World} {g cap : Nat} {l l' : List S43} (h : RowF w g cap l) (hl : l'.length = l.length) (q : Nat) (os : Array Obj) : RowF (sortWorldK encK 2 w g 0 q l'.toArray os) g cap l' := by
  obtain ⟨cur, hh, hlc, hcm, hcs, hc⟩ := h
  have hg : g < w.heap.size := blk_lt hh
  refine ⟨putCells id 0 (flatK encK 2 l'.toArray) cur, ?_, by omega, hcm, by simp [putCells, hcs], fun j f hf => ?_⟩
  · unfold sortWorldK
    rw [Go.Sort.heap_grow_old _ _ (by rw [size_putRowK]; exact hg)]
    unfold putRowK putRow mapBlock Go.Sort.ahead
    rw [Array.getElem?_modify, if_pos rfl, hh]
    rfl
  · have hj := (List.getElem?_eq_some_iff.1 hf).1
    have ef : l'.getD j z43 = f := by rw [List.getD_eq_getElem?_getD, hf]; rfl
    have key : ∀ t, t < l'.length * 2 → (putCells id 0 (flatK encK 2 l'.toArray) cur)[t]? = some (flatK encK 2 l'.toArray)[t]! := by
      intro t ht
      unfold putCells
      rw [Array.getElem?_mapIdx, Array.getElem?_eq_getElem (show t < cur.size by omega), Option.map_some, if_pos ⟨by omega, by rw [size_flatK]; simpa using ht⟩]
      rfl
    rw [key _ (by omega), key _ (by omega), flat_cell _ _ (by omega), flat_cell _ _ (by omega), if_pos (by omega), if_neg (by omega), show j * 2 / 2 = j by omega, show (j * 2 + 1) / 2 = j by omega, ef]
    exact ⟨rfl, rfl⟩
theorem grownBy_sortK {w : World} {g off n : Nat} {os : Array Obj} (d : Array S43) : w.grownBy (Go.Proofs.sortWorldK encK 2 w g off n d os) (some g) := by
  refine ⟨rfl, rfl, rfl, by rw [Go.Proofs.sortWorldK, Go.Sort.size_grow, Go.Sort.size_putRowK]; exact Nat.le_add_right _ _, fun k hk hne => ?_⟩
  unfold Go.Proofs.sortWorldK
  rw [Go.Sort.heap_grow_old _ _ (by rw [Go.Sort.size_putRowK]; exact hk)]
  have : g ≠ k := fun e => hne (by rw [e])
  simp [Go.Sort.putRowK, Go.Sort.putRow, Go.Sort.mapBlock, Go.Sort.ahead, Array.getElem?_modify, this]
end Go.Proofs.Ytpmjmhdofjbcbaa.H
