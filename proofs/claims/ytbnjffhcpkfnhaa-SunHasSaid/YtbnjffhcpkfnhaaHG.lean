/- sun.ranking: the search for the first order with the fewest upsets, for every table of at most seven strips. -/
import Derived.Deep.RegionHeld3
import Derived.Deep.AppendLies
import Derived.Deep.DrawnRows
import Derived.Test.YtbnjffhcpkfnhaaHD
import Derived.Test.YtbnjffhcpkfnhaaHE
import Derived.Test.YtbnjffhcpkfnhaaHW
namespace Go.Proofs.Ytbnjffhcpkfnhaa.H
open Go.RowKit Go.Shelf Go.Proofs.YtbnjffhcpkfnhaaW.PrintWords Go.Proofs.YtbnjffhcpkfnhaaW.PrintLast Go.Proofs.YtbnjffhcpkfnhaaW.PrintMore
set_option linter.unusedVariables false

/-- A list of strips of a table. -/
def moreTo (t : List (List Int)) (l : List Int) (x k : Nat) : Int := ((l.take k).map fun y => ent t x y.toNat).sum
def more (t : List (List Int)) (l : List Int) (x : Nat) : Int := (l.map fun y => ent t x y.toNat).sum
def stopR (s : List Int × Int) (n : Int) : Bool := decide (0 ≤ s.2) && decide (s.2 ≤ n)
def growR (t : List (List Int)) : Nat → List Int → Int → List Int × Int → List Int × Int
  | 0, l, n, s => if stopR s n = true then s else (l, n)
  | d + 1, l, n, s => if stopR s n = true then s else
      (List.range t.length).foldl (fun s (x : Nat) => if (x : Int) ∈ l then s else growR t d (l ++ [(x : Int)]) (n + more t l x) s) s

structure Turn (B2 B4 : Nat) (W W' : World) : Prop where
  os : W'.os = W.os
  tape : W'.tape = W.tape
  output : W'.output = W.output
  size : W.heap.size ≤ W'.heap.size
  block : ∀ k, k < W.heap.size → k ≠ B2 → k ≠ B4 → W'.heap[k]? = W.heap[k]?
theorem Turn.refl (B2 B4 : Nat) (W : World) : Turn B2 B4 W W := ⟨rfl, rfl, rfl, Nat.le_refl _, fun _ _ _ _ => rfl⟩
theorem Turn.trans {B2 B4 : Nat} {a b c : World} (h : Turn B2 B4 a b) (k : Turn B2 B4 b c) : Turn B2 B4 a c :=
  ⟨k.os.trans h.os, k.tape.trans h.tape, k.output.trans h.output, Nat.le_trans h.size k.size, fun i hi h2 h4 => (k.block i (Nat.lt_of_lt_of_le hi h.size) h2 h4).trans (h.block i hi h2 h4)⟩
theorem Turn.of_below {B2 B4 : Nat} {a b : World} (h : Below a.heap.size a b) : Turn B2 B4 a b := ⟨h.os, h.tape, h.output, h.size, fun k hk _ _ => h.block k hk⟩
theorem Turn.set2 {B2 B4 : Nat} (a : World) (u : Value) : Turn B2 B4 a (a.setCell ⟨B2, 0, none⟩ u) := ⟨rfl, rfl, rfl, by simp [World.setCell], fun k _ h2 _ => Below.heap_setCell _ _ _ k h2⟩
theorem Turn.set4 {B2 B4 : Nat} (a : World) (u : Value) : Turn B2 B4 a (a.setCell ⟨B4, 0, none⟩ u) := ⟨rfl, rfl, rfl, by simp [World.setCell], fun k _ _ h4 => Below.heap_setCell _ _ _ k h4⟩
theorem Turn.boxed {B2 B4 B : Nat} {a b : World} {t : TypeId} {v : Value} (h : Turn B2 B4 a b) (hb : Boxed a B t v) (h2 : B ≠ B2) (h4 : B ≠ B4) : Boxed b B t v := (h.block B hb.lt h2 h4).trans hb
theorem Turn.below {B2 B4 B : Nat} {w a b : World} (h : Turn B2 B4 a b) (hb : Below B w a) (h2 : B ≤ B2) (h4 : B ≤ B4) (hB : B ≤ w.heap.size) : Below B w b :=
  ⟨h.os.trans hb.os, h.tape.trans hb.tape, h.output.trans hb.output, Nat.le_trans hb.size h.size, fun k hk => (h.block k (by have := hb.size; omega) (by omega) (by omega)).trans (hb.block k hk)⟩

/-- A list that is read, and lies in neither box. -/
def Away (B2 B4 : Nat) (W : World) (A : Option Addr) (l : List Int) : Prop := Kd.F (Kd.int .i64) W (fun k => k ≠ B2 ∧ k ≠ B4) A l.length l
theorem Away.now {B2 B4 : Nat} {W : World} {A : Option Addr} {l : List Int} (h : Away B2 B4 W A l) : Kd.C (Kd.int .i64) W A l.length l := Kd.F_now h
theorem Away.turn {B2 B4 : Nat} {W W' : World} {A : Option Addr} {l : List Int} (h : Away B2 B4 W A l) (ht : Turn B2 B4 W W') : Away B2 B4 W' A l := Kd.F_step h (fun k hk hlt => ht.block k hlt hk.1 hk.2)
theorem Away.of_own {B2 B4 base c : Nat} {W : World} {A : Option Addr} {l : List Int} (h : W.ownsRow base 3 1 (.slice A l.length c) l.length (nums .i64 l)) (h2 : B2 < base) (h4 : B4 < base) : Away B2 B4 W A l := fun W' hW => by
  have h1 : Kd.R (Kd.int .i64) 3 W base (fun _ => True) (.slice A l.length c) l := Kd.R_of_own h (fun _ _ => trivial)
  have h3 := Kd.R_step (w1 := W') (Kd.R_bound h1) (fun k hk hlt => hW k ⟨by have := hk.2.1; omega, by have := hk.2.1; omega⟩ hlt)
  obtain ⟨A', c', he, _, hC⟩ := Kd.R_reads h3
  cases he
  exact hC

abbrev growV (B2 B3 B4 B5 : Nat) : Value := .func (.func 111) #[] #[.pointer (some ⟨B2, 0, none⟩), .pointer (some ⟨B3, 0, none⟩), .pointer (some ⟨B4, 0, none⟩), .pointer (some ⟨B5, 0, none⟩)]
/-- The four variables of the search. -/
structure Vars (B2 B3 B4 B5 base : Nat) (AT : Option Addr) (cT len : Nat) (s : List Int × Int) (W : World) (v : Value) : Prop where
  b2 : Boxed W B2 3 (.int .i64 s.2)
  b3 : Boxed W B3 22 (.slice AT len cT)
  b4 : Boxed W B4 27 v
  b5 : Boxed W B5 85 (growV B2 B3 B4 B5)
  own : W.ownsRow base 3 1 v s.1.length (nums .i64 s.1)
  ne : v.ownBlock ≠ some B2
theorem Vars.ne24 {B2 B3 B4 B5 base : Nat} {AT : Option Addr} {cT len : Nat} {s : List Int × Int} {W : World} {v : Value} (h : Vars B2 B3 B4 B5 base AT cT len s W v) : B2 ≠ B4 ∧ B3 ≠ B2 ∧ B3 ≠ B4 ∧ B5 ≠ B2 ∧ B5 ≠ B4 :=
  ⟨blk_ne h.b2 h.b4 (by decide), blk_ne h.b3 h.b2 (by decide), blk_ne h.b3 h.b4 (by decide), blk_ne h.b5 h.b2 (by decide), blk_ne h.b5 h.b4 (by decide)⟩
theorem Vars.of_below {B2 B3 B4 B5 base : Nat} {AT : Option Addr} {cT len : Nat} {s : List Int × Int} {W W' : World} {v : Value} (h : Vars B2 B3 B4 B5 base AT cT len s W v) (hb : Below W.heap.size W W') : Vars B2 B3 B4 B5 base AT cT len s W' v :=
  ⟨(hb.block _ h.b2.lt).trans h.b2, (hb.block _ h.b3.lt).trans h.b3, (hb.block _ h.b4.lt).trans h.b4, (hb.block _ h.b5.lt).trans h.b5, pw_own_below h.own hb, h.ne⟩

/-- What a call of the search leaves. -/
structure GrowPost (B2 B3 B4 B5 base : Nat) (AT : Option Addr) (cT len : Nat) (s : List Int × Int) (W : World) (e : Ending) (w' : World) : Prop where
  ret : e = .returned (.tuple #[])
  vars : ∃ v, Vars B2 B3 B4 B5 base AT cT len s w' v
  turn : Turn B2 B4 W w'

set_option maxRecDepth 100000 in
set_option maxHeartbeats 4000000 in
/-- The bound is met: nothing is done. -/
theorem grow_stop (B2 B3 B4 B5 base : Nat) (AT : Option Addr) (cT len : Nat) (A : Option Addr) (c ll : Nat) (n : Int) (s : List Int × Int) (v : Value) (W : World) (hV : Vars B2 B3 B4 B5 base AT cT len s W v) (hs : stopR s n = true) :
    Calls Try.prog 111 #[.slice A ll c, .int .i64 n, .pointer (some ⟨B2, 0, none⟩), .pointer (some ⟨B3, 0, none⟩), .pointer (some ⟨B4, 0, none⟩), .pointer (some ⟨B5, 0, none⟩)] W (GrowPost B2 B3 B4 B5 base AT cT len s W) := by
  unfold stopR at hs
  simp only [Bool.and_eq_true, decide_eq_true_eq] at hs
  obtain ⟨h0, h1⟩ := hs
  have c2 := hV.b2.cell
  have HV := Aside0.mk hV
  clear hV
  obtain ⟨best, least⟩ := s
  dsimp only at *
  have d0 : decide ((0 : Int) ≤ least) = true := decide_eq_true h0
  have d1 : decide (least ≤ n) = true := decide_eq_true h1
  go_enter Try.func111, Try.ntmps111
  go_wp2
  refine bodyPost_ret (results_none rfl _ _ _) rfl ?_
  exact ⟨rfl, ⟨v, HV.out⟩, Turn.refl _ _ _⟩

theorem own_cap {w : World} {b e n c m : Nat} {A : Option Addr} {xs : List Value} (h : w.ownsRow b e 1 (.slice A n c) m xs) : n ≤ c := by
  rcases h.2 with ⟨he, _⟩ | ⟨g, cap, cur, he, _, _, hle, _⟩
  · cases he; exact Nat.le_refl _
  · cases he; exact hle
theorem nums_snoc (l : List Int) (x : Int) : nums .i64 l ++ [.int .i64 x] = nums .i64 (l ++ [x]) := by simp [nums]
theorem mem_snoc {l : List Int} {n k : Nat} (h : ∀ y, y ∈ l → 0 ≤ y ∧ y < (n : Int)) (hk : k < n) : ∀ y, y ∈ l ++ [(k : Int)] → 0 ≤ y ∧ y < (n : Int) := fun y hy => by
  rcases List.mem_append.1 hy with hy | hy
  · exact h y hy
  · rw [List.mem_singleton.1 hy]; omega
theorem clone_own (A : Option Addr) (c : Nat) (l : List Int) (W : World) (hC : Kd.C (Kd.int .i64) W A l.length l) (hc : l.length ≤ c) (hl : l.length ≤ 7) :
    Calls Try.prog 91 #[.slice A l.length c] W fun e w' => ∃ v : Value, e = .returned v ∧ w'.ownsRow W.heap.size 3 1 v l.length (nums .i64 l) ∧ Below W.heap.size W w' :=
  (slices_Clone_int_int.calls A c l l W hC hc (by unfold slices_Clone_int_int.f; rw [if_pos (by omega)])).mono fun _ _ ⟨v, he, hR, hB⟩ => ⟨v, he, Kd.own_of_R hR, hB⟩

theorem stopR_no {s : List Int × Int} {n : Int} (h : stopR s n = false) : decide ((0 : Int) ≤ s.2) = false ∨ (decide ((0 : Int) ≤ s.2) = true ∧ decide (s.2 ≤ n) = false) := by
  unfold stopR at h
  cases h0 : decide ((0 : Int) ≤ s.2) with
  | false => exact .inl rfl
  | true => rw [h0, Bool.true_and] at h; exact .inr ⟨rfl, h⟩

theorem Vars.stored {B2 B3 B4 B5 base b1 : Nat} {AT : Option Addr} {cT len : Nat} {s : List Int × Int} {W : World} {v v1 : Value} (h : Vars B2 B3 B4 B5 base AT cT len s W v) (l : List Int) (n : Int)
    (ho : W.ownsRow b1 3 1 v1 l.length (nums .i64 l)) (hb : base ≤ b1) (h2 : B2 < b1) : Vars B2 B3 B4 B5 base AT cT len (l, n) ((W.setCell ⟨B4, 0, none⟩ v1).setCell ⟨B2, 0, none⟩ (.int .i64 n)) v1 := by
  obtain ⟨e24, e32, e34, e52, e54⟩ := h.ne24
  have hne : v1.ownBlock ≠ some B2 := fun e => by have := own_base ho B2 e; omega
  have h4 : Boxed (W.setCell ⟨B4, 0, none⟩ v1) B4 27 v1 := h.b4.set v1
  have ho4 : (W.setCell ⟨B4, 0, none⟩ v1).ownsRow b1 3 1 v1 l.length (nums .i64 l) := ho.kept (grownBy_setCell' W B4 v1) (.inr (h.b4.not_row (by decide) ho).symm)
  refine ⟨(h.b2.other e24 _).set _, (h.b3.other e34 _).other e32 _, h4.other (Ne.symm e24) _, (h.b5.other e54 _).other e52 _, ?_, hne⟩
  exact own_weaken (ho4.kept (grownBy_setCell' _ B2 _) (.inr hne)) hb

set_option maxRecDepth 100000 in
set_option maxHeartbeats 4000000 in
/-- All strips stand: a better order. -/
theorem grow_leaf (B2 B3 B4 B5 base : Nat) (AT : Option Addr) (cT len : Nat) (A : Option Addr) (c : Nat) (l : List Int) (n : Int) (s : List Int × Int) (v : Value) (W : World) (hV : Vars B2 B3 B4 B5 base AT cT len s W v) (hs : stopR s n = false)
    (hl : l.length = len) (h7 : len ≤ 7) (hA : Away B2 B4 W A l) (hc : l.length ≤ c) (hbase : base ≤ W.heap.size) :
    Calls Try.prog 111 #[.slice A l.length c, .int .i64 n, .pointer (some ⟨B2, 0, none⟩), .pointer (some ⟨B3, 0, none⟩), .pointer (some ⟨B4, 0, none⟩), .pointer (some ⟨B5, 0, none⟩)] W (GrowPost B2 B3 B4 B5 base AT cT len (l, n) W) := by
  have hC := clone_own A c l W hA.now hc (by omega)
  have c2 := hV.b2.cell
  have c3 := hV.b3.cell
  have HV := Aside0.mk hV
  have hle : (l.length == len) = true := beq_iff_eq.2 hl
  have HL := Aside0.mk hl
  have hd := stopR_no hs
  clear hV hs hl hA hc
  obtain ⟨best, least⟩ := s
  dsimp only at *
  rcases hd with d0 | ⟨d0, d1⟩
  all_goals
    go_enter Try.func111, Try.ntmps111
    go_wp2_with (go_at_call 91; refine hC.mono ?_; rintro e w' ⟨v1, rfl, hown1, hb1⟩; clear hC; have HV1 := Aside0.mk (HV.out.of_below hb1); have c4 := HV1.out.b4.cell; have f4 := HV1.out.b4.frozen; obtain ⟨A1, c1, rfl⟩ := own_slice hown1; have c2' := ((HV1.out.b2).other HV1.out.ne24.1 (.slice A1 l.length c1)).cell; have f2' := ((HV1.out.b2).other HV1.out.ne24.1 (.slice A1 l.length c1)).frozen)
    refine bodyPost_ret (results_none rfl _ _ _) rfl ?_
    exact ⟨rfl, ⟨_, HV1.out.stored l n hown1 hbase HV.out.b2.lt⟩, ((Turn.of_below hb1).trans (Turn.set4 _ _)).trans (Turn.set2 _ _)⟩

theorem moreTo_succ (t : List (List Int)) (l : List Int) (x k : Nat) (hk : k < l.length) : moreTo t l x (k + 1) = moreTo t l x k + ent t x (l.getD k 0).toNat := by
  unfold moreTo
  rw [List.take_succ_eq_append_getElem hk, List.map_append, List.sum_append]
  simp [hk]
theorem moreTo_all (t : List (List Int)) (l : List Int) (x : Nat) : moreTo t l x l.length = more t l x := by unfold moreTo more; rw [List.take_length]
theorem moreTo_bound {t : List (List Int)} (hb : ∀ i k, ent t i k = 0 ∨ ent t i k = 1) (l : List Int) (x : Nat) : ∀ k, k ≤ l.length → 0 ≤ moreTo t l x k ∧ moreTo t l x k ≤ k := by
  intro k
  induction k with
  | zero => intro _; simp [moreTo]
  | succ k ih =>
    intro hk
    have := ih (by omega)
    rw [moreTo_succ t l x k (by omega)]
    rcases hb x (l.getD k 0).toNat with h | h <;> rw [h] <;> omega

/-- What the search leans on: the table, read from below. -/
structure Tab (B2 B4 : Nat) (AT : Option Addr) (cT : Nat) (t : List (List Int)) (w0 : World) : Prop where
  rd : Kd.C (Kd.slice 3 (Kd.int .i64)) w0 AT t.length t
  cap : t.length ≤ cT
  h2 : w0.heap.size ≤ B2
  h4 : w0.heap.size ≤ B4
  h7 : t.length ≤ 7
  sq : ∀ i, i < t.length → (t.getD i []).length = t.length
  bits : ∀ i k, ent t i k = 0 ∨ ent t i k = 1

def foldR (t : List (List Int)) (d : Nat) (l : List Int) (n : Int) (s : List Int × Int) (k : Nat) : List Int × Int :=
  (List.range k).foldl (fun s (x : Nat) => if (x : Int) ∈ l then s else growR t d (l ++ [(x : Int)]) (n + more t l x) s) s
theorem foldR_succ (t : List (List Int)) (d : Nat) (l : List Int) (n : Int) (s : List Int × Int) (k : Nat) : foldR t d l n s (k + 1) = if (k : Int) ∈ l then foldR t d l n s k else growR t d (l ++ [(k : Int)]) (n + more t l k) (foldR t d l n s k) := by
  unfold foldR
  rw [List.range_succ, List.foldl_append]
  rfl

def GrowSaid (B2 B3 B4 B5 : Nat) (AT : Option Addr) (cT : Nat) (t : List (List Int)) (w0 : World) (d : Nat) : Prop :=
  ∀ (A : Option Addr) (c : Nat) (l : List Int) (n : Int) (s : List Int × Int) (v : Value) (W : World), Vars B2 B3 B4 B5 w0.heap.size AT cT t.length s W v → l.length + d = t.length → (∀ y, y ∈ l → 0 ≤ y ∧ y < (t.length : Int)) → 0 ≤ n → n ≤ 7 * l.length →
    Away B2 B4 W A l → l.length ≤ c → Below w0.heap.size w0 W →
    Calls Try.prog 111 #[.slice A l.length c, .int .i64 n, .pointer (some ⟨B2, 0, none⟩), .pointer (some ⟨B3, 0, none⟩), .pointer (some ⟨B4, 0, none⟩), .pointer (some ⟨B5, 0, none⟩)] W (GrowPost B2 B3 B4 B5 w0.heap.size AT cT t.length (growR t d l n s) W)

set_option maxRecDepth 100000 in
set_option maxHeartbeats 4000000 in
theorem grow_step (B2 B3 B4 B5 : Nat) (AT : Option Addr) (cT : Nat) (t : List (List Int)) (w0 : World) (hT : Tab B2 B4 AT cT t w0) (d : Nat) (ih : GrowSaid B2 B3 B4 B5 AT cT t w0 d)
    (A : Option Addr) (c : Nat) (l : List Int) (n : Int) (s : List Int × Int) (v : Value) (W : World) (hV : Vars B2 B3 B4 B5 w0.heap.size AT cT t.length s W v) (hl : l.length + (d + 1) = t.length) (hin : ∀ y, y ∈ l → 0 ≤ y ∧ y < (t.length : Int)) (hn0 : 0 ≤ n) (hn1 : n ≤ 7 * l.length)
    (hA : Away B2 B4 W A l) (hc : l.length ≤ c) (hB : Below w0.heap.size w0 W) (hs : stopR s n = false) :
    Calls Try.prog 111 #[.slice A l.length c, .int .i64 n, .pointer (some ⟨B2, 0, none⟩), .pointer (some ⟨B3, 0, none⟩), .pointer (some ⟨B4, 0, none⟩), .pointer (some ⟨B5, 0, none⟩)] W (GrowPost B2 B3 B4 B5 w0.heap.size AT cT t.length (foldR t d l n s t.length) W) := by
  have c2 := hV.b2.cell
  have c3 := hV.b3.cell
  have hle : (l.length == t.length) = false := beq_eq_false_iff_ne.2 (by omega)
  have hle2 : ((l.length : Int) == (t.length : Int)) = false := beq_eq_false_iff_ne.2 (by omega)
  have hd := stopR_no hs
  have HT := Aside0.mk hT
  have h7 := hT.h7
  have HL := Aside0.mk hl
  have HIN := Aside0.mk hin
  have HIH := Aside0.mk ih
  have HV := Aside0.mk hV
  have HA := Aside0.mk hA
  have hn7 : n ≤ 49 := by omega
  have hl7 : l.length ≤ 7 := by omega
  have HS := Aside0.mk hs
  clear hs hV hT hl hin ih hA
  obtain ⟨best, least⟩ := s
  dsimp only at *
  rcases hd with d0 | ⟨d0, d1⟩
  all_goals
    go_enter Try.func111, Try.ntmps111
    go_wp2
    go_loopg [8, 29] t.length (fun gg s8 s29 wr => ∃ k : Nat, k ≤ t.length ∧ t.length - k ≤ gg ∧ s29 = .int .i64 k ∧ Aside0 (∃ v, Vars B2 B3 B4 B5 w0.heap.size AT cT t.length (foldR t d l n (best, least) k) wr v) ∧ Aside0 (Turn B2 B4 W wr))
    case atStart => exact ⟨0, Nat.zero_le _, by omega, rfl, ⟨v, HV.out⟩, ⟨Turn.refl _ _ _⟩⟩
    case round =>
      obtain ⟨k, hk, hg, rfl, ⟨vk, HVk⟩, HTu⟩ := hrel
      by_cases hlt : k < t.length
      · have hltz : (k : Int) < (t.length : Int) := by omega
        have hAk := HA.out.turn HTu.out
        have hC := slices_Contains_int_int.calls A c l (k : Int) _ wr hAk.now hc rfl
        have HAk := Aside0.mk hAk
        clear hAk
        have c3k := HVk.b3.cell
        have c5k := HVk.b5.cell
        have HVk' := Aside0.mk HVk
        clear HVk
        by_cases hmem : (k : Int) ∈ l
        · rw [decide_eq_true hmem] at hC
          have HM := Aside0.mk hmem
          clear hmem
          go_wp2_with (go_at_call 103; refine hC.mono ?_; rintro e w' ⟨rfl, ⟨nd, rfl⟩⟩)
          go_roundg (t.length - (k + 1))
          case measure => omega
          case rel => exact ⟨k + 1, by omega, by omega, by go_num, ⟨vk, by rw [foldR_succ, if_pos HM.out]; exact HVk'.out.of_below (pw_below_drewN (Below.refl _ _) _)⟩, ⟨HTu.out.trans (Turn.of_below (pw_below_drewN (Below.refl _ _) _))⟩⟩
        · rw [decide_eq_false hmem] at hC
          have HM := Aside0.mk hmem
          clear hmem
          have hbk := HTu.out.below hB HT.out.h2 HT.out.h4 (Nat.le_refl _)
          obtain ⟨adT, A0, cc0, rfl, hrow, _, hrd⟩ := at_rows HT.out.rd k hlt
          have hsq := HT.out.sq k hlt
          have hmb := moreTo_bound HT.out.bits l k
          have HMB := Aside0.mk hmb
          clear hmb
          rw [hsq] at hrow hrd
          have hrow1 := fun nd => ((pw_below_drewN hbk nd).cell (World.block_lt_of_cell? w0 _ hrow)).trans hrow
          have HRD := Aside0.mk hrd
          have HBk := Aside0.mk hbk
          clear hrow hrd hbk hsq
          go_wp2_with (go_at_call 103; refine hC.mono ?_; rintro e w' ⟨rfl, ⟨nd, rfl⟩⟩; clear hC)
          have hrow2 := hrow1 nd
          clear hrow1
          have c3d : (wr.drewN nd).cell? ⟨B3, 0, none⟩ = some (.slice (some adT) t.length cT) := c3k
          go_loop [9, 38] (fun s9 s38 => ∃ j : Nat, j ≤ l.length ∧ s38 = .int .i64 j ∧ s9 = .int .i64 (moreTo t l k j)) (fun _ s38 => l.length - (intOf s38).toNat)
          case atStart =>
            exact ⟨0, Nat.zero_le _, by simp, by simp [moreTo]⟩
          case round =>
            obtain ⟨j, hj, rfl, rfl⟩ := hrel
            by_cases hjl : j < l.length
            · have hjz : (j : Int) < (l.length : Int) := by omega
              obtain ⟨adl, rfl, hcy⟩ := at_ints HAk.out.now j hjl
              have hym := HIN.out (l.getD j 0) (by simp [hjl])
              have hms := Aside0.mk (moreTo_succ t l k j hjl)
              have hb1 := HMB.out j hj
              have hb2 := HT.out.bits k (l.getD j 0).toNat
              obtain ⟨y, hy⟩ := Int.eq_ofNat_of_zero_le hym.1
              rw [hy] at hms hym hcy hb2
              rw [Int.toNat_natCast] at hms hb2
              have hylt : y < t.length := by omega
              have hyz : (y : Int) < (t.length : Int) := by omega
              obtain ⟨adr, rfl, hcr⟩ := at_ints HRD.out y hylt
              have hcr1 := ((pw_below_drewN HBk.out nd).cell (World.block_lt_of_cell? w0 _ hcr)).trans hcr
              have hcy1 : (wr.drewN nd).cell? (adl.add j) = some (.int .i64 (y : Int)) := hcy
              unfold ent at hb2 hms
              generalize (t.getD k []).getD y 0 = b at *
              generalize moreTo t l k j = mj at *
              clear hy hcr hcy
              go_wp2
              go_round
              case rel => exact ⟨j + 1, by omega, by go_num, by rw [hms.out]⟩
              case measure => simp [intOf]; omega
            · obtain rfl : j = l.length := by omega
              have hmb := HMB.out l.length (Nat.le_refl _)
              have HMO := Aside0.mk (moreTo_all t l k)
              generalize moreTo t l k l.length = m at *
              obtain ⟨wd, hwd⟩ : ∃ wd, wr.drewN nd = wd := ⟨_, rfl⟩
              have hbd : Below wr.heap.size wr wd := by rw [← hwd]; exact pw_below_drewN (Below.refl _ _) _
              have HVd := Aside0.mk (HVk'.out.of_below hbd)
              have HTd := Aside0.mk (HTu.out.trans (Turn.of_below hbd))
              have HAd := Aside0.mk (HAk.out.turn (Turn.of_below hbd))
              have HBd := Aside0.mk (HBk.out.trans (hbd.mono HBk.out.size))
              go_wp2_with fail
              have c5d := HVd.out.b5.cell
              have hwr : IntKind.i64.wrap (n + m) = n + m := IntWalk.i64_in _ (by omega)
              have HC := fun W' (hb : Below wd.heap.size wd W') => clone_own A c l W' ((HAd.out.turn (Turn.of_below hb)).now) hc hl7
              clear hwd hbd hrow2 c3d c5k c3k c2 c3
              obtain ⟨i0, hi0, hz0, hz1, hz2⟩ := info_parts info3
              have hsz0 : l.length + 1 ≤ maxLen := by simp only [maxLen]; omega
              have HIHk := fun (gg cap : Nat) (w2 : World) (hbf : Below wd.heap.size wd w2) (hown2 : w2.ownsRow wd.heap.size 3 1 (.slice (some ⟨gg, 0, none⟩) (l.length + 1) cap) (l.length + 1) (nums .i64 l ++ [.int .i64 (k : Int)])) => HIH.out (some ⟨gg, 0, none⟩) cap (l ++ [(k : Int)]) (n + m) (foldR t d l n (best, least) k) vk w2 (HVd.out.of_below hbf)
                (by have := HL.out; simp; omega) (mem_snoc HIN.out hlt) (by omega) (by simp; omega) (Away.of_own (base := wd.heap.size) (c := cap) (by rw [nums_snoc] at hown2; simpa using hown2) HVd.out.b2.lt HVd.out.b4.lt) (by have := own_cap hown2; simpa using this) (HBd.out.trans (hbf.mono HBd.out.size))
              simp only [List.length_append, List.length_singleton] at HIHk
              go_region_held3 (fun w' => w'.cell? ⟨B5, 0, none⟩ = some (growV B2 B3 B4 B5)) (first | (exact hV3.b5.cell) | go_keep | (exact (HVd.out.of_below hbf).b5.cell) | (exact (HVd.out.of_below hbe).b5.cell))
                ((first
                  | (go_at_call 91; refine (HC _ (by repeat (first | exact Below.refl _ _ | apply below_alloc | apply below_drew))).mono ?_; rintro e w1 ⟨v1, rfl, hown1, hb1⟩; have hbe : Below wd.heap.size wd w1 := Below.trans (by repeat (first | exact Below.refl _ _ | apply below_alloc | apply below_drew)) (hb1.mono (by simp)))
                  | (go_at_call 111; refine (HIHk _ _ _ hbf hown2).mono ?_; rintro e w3 ⟨rfl, ⟨v3, hV3⟩, hT3⟩)
                  | (refine step_append_lies _ (by rfl) _ _ _ (by rfl) wd.heap.size 3 i0 _ 1 8 Try.underlying27 hi0 hz0 hz1 hz2 rfl (by omega) v1 l.length (nums .i64 l) (by rfl) (own_weaken hown1 (by simp)) ⟨wd.heap.size, 0, none⟩ 1 1 [.int .i64 (k : Int)] (by rfl) (by rfl) (World.news_of_block (cs := #[.int .i64 (k : Int)]) (t := 3) (fr := (0, 0)) ((hb1.block _ (by simp)).trans (heap_alloc_new _ _))) (by simp [Value.oneCell']) (by omega) hsz0 (by omega) hbe.size _ rfl ?_; intro gg cap w2 hown2 hgrow hat hlt; have hbf : Below wd.heap.size wd w2 := hbe.grown hgrow hbe.size (own_base (own_weaken hown1 (by simp))))
                  | (refine step_append_lies _ (by rfl) _ _ _ (by rfl) wd.heap.size 3 i0 _ 1 8 Try.underlying27 hi0 hz0 hz1 hz2 rfl (by omega) v1 l.length (nums .i64 l) (by rfl) ((own_weaken hown1 (by simp)).alloc _) ⟨w1.heap.size, 0, none⟩ 1 1 [.int .i64 (k : Int)] (by rfl) (by rfl) (World.news_of_block (cs := #[.int .i64 (k : Int)]) (t := 3) (fr := (0, 0)) (heap_alloc_new _ _)) (by simp [Value.oneCell']) (by omega) hsz0 (by omega) (by have := hbe.size; simp; omega) _ rfl ?_; intro gg cap w2 hown2 hgrow hat hlt; have hbf : Below wd.heap.size wd w2 := (hbe.alloc hbe.size _).grown hgrow (by have := hbe.size; simp; omega) (own_base (own_weaken hown1 (by simp))))))
              all_goals
                go_wp2
                go_roundg (t.length - (k + 1))
                case measure => omega
                case rel => exact ⟨k + 1, by omega, by omega, by go_num, ⟨v3, by rw [foldR_succ, if_neg HM.out, ← HMO.out]; exact hV3⟩, ⟨(HTd.out.trans (Turn.of_below hbf)).trans hT3⟩⟩
      · obtain rfl : k = t.length := by omega
        go_wp2
        refine bodyPost_ret (results_none rfl _ _ _) rfl ?_
        exact ⟨rfl, ⟨vk, HVk⟩, HTu.out⟩

theorem grow_all (B2 B3 B4 B5 : Nat) (AT : Option Addr) (cT : Nat) (t : List (List Int)) (w0 : World) (hT : Tab B2 B4 AT cT t w0) : ∀ d, GrowSaid B2 B3 B4 B5 AT cT t w0 d := by
  intro d
  induction d with
  | zero =>
    intro A c l n s v W hV hl hin hn0 hn1 hA hc hB
    cases hs : stopR s n with
    | true => rw [growR, if_pos hs]; exact grow_stop B2 B3 B4 B5 _ AT cT _ A c l.length n s v W hV hs
    | false => rw [growR, if_neg (by simp [hs])]; exact grow_leaf B2 B3 B4 B5 _ AT cT _ A c l n s v W hV hs (by omega) hT.h7 hA hc hB.size
  | succ d ih =>
    intro A c l n s v W hV hl hin hn0 hn1 hA hc hB
    cases hs : stopR s n with
    | true => rw [growR, if_pos hs]; exact grow_stop B2 B3 B4 B5 _ AT cT _ A c l.length n s v W hV hs
    | false => rw [growR, if_neg (by simp [hs])]; exact grow_step B2 B3 B4 B5 AT cT t w0 hT d ih A c l n s v W hV hl hin hn0 hn1 hA hc hB hs

end Go.Proofs.Ytbnjffhcpkfnhaa.H
