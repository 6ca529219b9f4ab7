/- feud.order: feuds by their first paint, then by their second. -/
import Derived.Test.YtpmjmhdofjbcbaaQC1
import Derived.Test.YtpmjmhdofjbcbaaFB
import Derived.Deep.RegionHeld3
import Derived.Sort.Grow
namespace Go.Proofs.Ytpmjmhdofjbcbaa.H
open Go.RowKit Go.Maps Go.Proofs.Ytpmjmhdofjbcbaa.QA Go.Proofs.Ytpmjmhdofjbcbaa.QC Go.Proofs.YtpmjmhdofjbcbaaW.PrintWords Go.Proofs.YtpmjmhdofjbcbaaW.PrintLast Go.Proofs.YtpmjmhdofjbcbaaW.PrintMore
set_option linter.unusedVariables false
set_option linter.unusedSimpArgs false
def cmpI (a b : Int) : Int := if a < b then -1 else if a > b then 1 else 0
theorem compare_eq (a b : Int) : cmp_Compare_int.f a b = some (cmpI a b) := by
  unfold cmp_Compare_int.f cmp_isNaN_int.f cmpI
  simp only [Option.bind_some, bne_self_eq_false]
  rw [if_neg (by decide), if_neg (by decide)]
  split
  · rfl
  · split <;> rfl
def cmpF (f g : S43) : Int := if cmpI f.f0 g.f0 ≠ 0 then cmpI f.f0 g.f0 else cmpI f.f1 g.f1
theorem or_eq (x y : Int) : cmp_Or_int.f 3 [x, y] = some (if x ≠ 0 then x else y) := by
  unfold cmp_Or_int.f
  simp only [cmp_Or_int.l0]
  by_cases hx : x = 0
  · by_cases hy : y = 0
    · subst hx; subst hy; simp [rd, wrap64]
    · subst hx
      simp [rd, hy, wrap64]
  · simp [rd, hx]
theorem pairC (W : World) (x y : Int) : Kd.C (Kd.int .i64) (W.alloc (.cells #[.int .i64 x, .int .i64 y] 3)) (some ⟨W.heap.size, 0, none⟩) [x, y].length [x, y] := by
  have hb := blk_new W (.cells #[.int .i64 x, .int .i64 y] 3)
  refine ⟨rfl, by simp, fun _ => ⟨_, rfl, fun j p hj => ⟨[.int .i64 p], rfl, rfl, fun i u hu => ?_⟩⟩⟩
  cases i with
  | succ i => simp at hu
  | zero =>
    have e0 : u = .int .i64 p := by simpa using hu.symm
    have e1 : (Kd.int .i64).sz = 1 := rfl
    rw [e1, Nat.mul_one, Nat.add_zero, add_plain, e0]
    match j, hj with
    | 0, hj =>
      have : x = p := by simpa using hj
      rw [← this]
      exact (blk_cell hb 0).trans rfl
    | 1, hj =>
      have : y = p := by simpa using hj
      rw [← this]
      exact (blk_cell hb 1).trans rfl
    | j + 2, hj => simp at hj
theorem grown3 (w : World) (o1 o2 o3 : Obj) (a b : Nat) : ((((w.alloc o1).alloc o2).drewN a).alloc o3).drewN b = Go.Sort.grow (w.drewN (a + b)) #[o1, o2, o3] := by
  rw [← World.drewN_drewN, Go.Sort.alloc_eq_grow w o1, Go.Sort.alloc_eq_grow (Go.Sort.grow w #[o1]) o2, Go.Sort.alloc_eq_grow _ o3]
  show Go.Sort.grow (Go.Sort.grow (Go.Sort.grow ((w.drewN a).drewN b) #[o1]) #[o2]) #[o3] = _
  rw [Go.Sort.grow_grow, Go.Sort.grow_grow]
  rfl
set_option maxRecDepth 100000 in
set_option maxHeartbeats 8000000 in
theorem order.calls (f g : S43) (w : World) : Calls Try.prog 106 #[aggF f, aggF g] w fun e w' => e = .returned (.int .i64 (cmpF f g)) ∧ ∃ q os, w' = Go.Sort.grow (w.drewN q) os := by
  have hC := fun a b W => cmp_Compare_int.calls a b _ W (compare_eq a b)
  obtain ⟨r, hr⟩ : ∃ r, r = cmpF f g := ⟨_, rfl⟩
  have hO := fun (W : World) => cmp_Or_int.calls 3 _ 2 [cmpI f.f0 g.f0, cmpI f.f1 g.f1] r _ (pairC W (cmpI f.f0 g.f0) (cmpI f.f1 g.f1)) (by simp) ((or_eq _ _).trans (by rw [hr]; rfl))
  have hO2 : ∀ W : World, Calls Try.prog 128 #[.slice (some ⟨W.heap.size, 0, none⟩) 2 2] (W.alloc (.cells #[.int .i64 (cmpI f.f0 g.f0), .int .i64 (cmpI f.f1 g.f1)] 3)) fun e w' => e = .returned (.int .i64 r) ∧ Drawn0 (W.alloc (.cells #[.int .i64 (cmpI f.f0 g.f0), .int .i64 (cmpI f.f1 g.f1)] 3)) w' := hO
  rw [← hr]
  clear hO hr
  go_enter Try.func106, Try.ntmps106
  go_wp2_with fail
  obtain ⟨w0, hw0⟩ : ∃ w0, w0 = (w.alloc (.cells #[.int .i64 f.f0, .int .i64 f.f1] 43)).alloc (.cells #[.int .i64 g.f0, .int .i64 g.f1] 43) := ⟨_, rfl⟩
  have b1 : w0.heap[w.heap.size]? = some (.cells #[.int .i64 f.f0, .int .i64 f.f1] 43 (0, 0)) := by rw [hw0]; exact blk_alloc (blk_new _ _) _
  have b2 : w0.heap[w.heap.size + 1]? = some (.cells #[.int .i64 g.f0, .int .i64 g.f1] 43 (0, 0)) := by
    rw [hw0]
    have := blk_new (w.alloc (.cells #[.int .i64 f.f0, .int .i64 f.f1] 43)) (.cells #[.int .i64 g.f0, .int .i64 g.f1] 43)
    rwa [World.size_alloc] at this
  have HW0 := Aside0.mk hw0
  rw [← hw0]
  clear hw0
  have c0 : w0.cell? ⟨w.heap.size, 0, none⟩ = some (.int .i64 f.f0) := (blk_cell b1 0).trans rfl
  have c1 : w0.cell? ⟨w.heap.size, 1, none⟩ = some (.int .i64 f.f1) := (blk_cell b1 1).trans rfl
  have c2 : w0.cell? ⟨w.heap.size + 1, 0, none⟩ = some (.int .i64 g.f0) := (blk_cell b2 0).trans rfl
  have c3 : w0.cell? ⟨w.heap.size + 1, 1, none⟩ = some (.int .i64 g.f1) := (blk_cell b2 1).trans rfl
  clear b1 b2
  go_region_held3 (fun w' => w'.cell? ⟨w.heap.size, 0, none⟩ = some (.int .i64 f.f0) ∧ w'.cell? ⟨w.heap.size, 1, none⟩ = some (.int .i64 f.f1) ∧ w'.cell? ⟨w.heap.size + 1, 0, none⟩ = some (.int .i64 g.f0) ∧ w'.cell? ⟨w.heap.size + 1, 1, none⟩ = some (.int .i64 g.f1)) (first | exact ⟨c0, c1, c2, c3⟩ | go_keep)
    ((first
      | (go_at_call 129; refine (hC _ _ _).mono ?_; rintro e w' ⟨rfl, ⟨n1, rfl⟩⟩)
      | (go_at_call 128; refine (hO2 _).mono ?_; rintro e w' ⟨rfl, ⟨n3, rfl⟩⟩)))
  all_goals (go_wp2; go_ret; exact ⟨rfl, _, _, by rw [HW0.out]; exact grown3 _ _ _ _ _ _⟩)
end Go.Proofs.Ytpmjmhdofjbcbaa.H
