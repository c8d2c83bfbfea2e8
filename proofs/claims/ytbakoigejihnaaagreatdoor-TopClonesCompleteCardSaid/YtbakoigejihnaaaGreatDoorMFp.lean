/- Clones taken out, fingerprints looked for, the great law's example and its function fingerprints, walked. Conditions: none. -/
import Derived.Test.YtbakoigejihnaaaGreatDoorMR0
import Derived.Test.YtbakoigejihnaaaGreatDoorMBs
import Derived.Test.YtbakoigejihnaaaGreatDoorMKl
import Derived.Test.YtbakoigejihnaaaGreatDoorMCo
import Derived.Test.YtbakoigejihnaaaGreatDoorMFd
import Derived.Test.YtbakoigejihnaaaGreatDoorMWd
section
set_option linter.unusedSectionVars false
set_option linter.unusedSimpArgs false
set_option linter.unusedVariables false
namespace Go.Proofs.YtbakoigejihnaaaGreatDoor.Dl
open Go.RowKit Go.Proofs.YtbakoigejihnaaaGreatDoorW.PrintWords Go.Proofs.YtbakoigejihnaaaGreatDoorW.PrintLast Go.Proofs.YtbakoigejihnaaaGreatDoorW.PrintMore
abbrev SCl := Ref.S37
abbrev kCl : Kd SCl := Ref.k37
abbrev TCl : TypeId := 37
abbrev Yes : Nat → Prop := fun _ => True

/-- is a clone one of a text with itself -/
def sameB (x : SCl) : Bool := x.f0 == x.f2
set_option maxHeartbeats 4000000 in
theorem same_calls (x0 x1 x2 x3 x4 : Int) (w : World) : Calls Tryz.prog 10 #[.agg #[.int .i64 x0, .int .i64 x1, .int .i64 x2, .int .i64 x3, .int .i64 x4]] w fun e w' =>
    e = .returned (.bool (x0 == x2)) ∧ w' = w.alloc (.cells #[.int .i64 x0, .int .i64 x1, .int .i64 x2, .int .i64 x3, .int .i64 x4] TCl) := by
  go_enter Tryz.func10, Tryz.ntmps10
  go_wp2_with fail
  go_ret
  exact ⟨rfl, rfl⟩

/-- the first place of a clone within one text -/
def firstSame (xs : List SCl) : Nat := (xs.takeWhile fun x => !sameB x).length
theorem firstSame_le (xs : List SCl) : firstSame xs ≤ xs.length := List.Sublist.length_le (List.takeWhile_sublist _)
theorem firstSame_cons (x : SCl) (xs : List SCl) : firstSame (x :: xs) = if sameB x = true then 0 else firstSame xs + 1 := by
  unfold firstSame
  cases h : sameB x <;> simp [List.takeWhile_cons, h]
theorem firstSame_at : ∀ {xs : List SCl} {i : Nat} (hi : i < xs.length), (∀ j (hj : j < i), sameB (xs[j]'(by omega)) = false) → sameB xs[i] = true → firstSame xs = i
  | x :: xs, 0, _, _, h => by rw [firstSame_cons, if_pos (by simpa using h)]
  | x :: xs, i + 1, hi, hj, h => by
    have h0 : sameB x = false := hj 0 (by omega)
    rw [firstSame_cons, if_neg (by rw [h0]; simp), firstSame_at (xs := xs) (i := i) (by simpa using hi) (fun j hj' => hj (j + 1) (by omega)) (by simpa using h)]
theorem firstSame_none : ∀ {xs : List SCl}, (∀ j (hj : j < xs.length), sameB xs[j] = false) → firstSame xs = xs.length
  | [], _ => rfl
  | x :: xs, h => by
    have h0 : sameB x = false := h 0 (by simp)
    rw [firstSame_cons, if_neg (by rw [h0]; simp), firstSame_none (xs := xs) (fun j hj => h (j + 1) (by simpa using hj))]; rfl

/-- what slices.IndexFunc gives -/
def idxSame (xs : List SCl) : Int := if firstSame xs < xs.length then ((firstSame xs : Nat) : Int) else -1
theorem rd_cl {l : List SCl} {i : Nat} (hi : i < l.length) : Ref.rd_T37 l (i : Int) = l[i] := by
  unfold Ref.rd_T37
  rw [Int.toNat_natCast, List.getD_eq_getElem?_getD, List.getElem?_eq_getElem hi]; rfl

set_option maxHeartbeats 4000000 in
set_option maxRecDepth 100000 in
theorem index_same (w : World) (A : Option Addr) (c : Nat) (xs : List SCl) (hC : Kd.C kCl w A xs.length xs) (hn : xs.length ≤ 1000000) :
    Calls Tryz.prog 25 #[.slice A xs.length c, .func (.func 10) #[] #[]] w fun e w' =>
      e = .returned (.int .i64 (idxSame xs)) ∧ Below w.heap.size w w' := by
  have HC := Aside0.mk hC
  clear hC
  go_enter Tryz.func25, Tryz.ntmps25
  go_wp2_with fail
  go_loopg [8] xs.length (fun gg v8 wr => ∃ i : Nat, v8 = .int .i64 i ∧ Aside0 (i + gg = xs.length) ∧ Aside0 (∀ j (h : j < i) (hj : j < xs.length), sameB xs[j] = false) ∧ Aside0 (Below w.heap.size w wr))
  case atStart => exact ⟨0, rfl, ⟨by omega⟩, ⟨fun j h => absurd h (Nat.not_lt_zero _)⟩, ⟨Below.refl _ _⟩⟩
  case round =>
    obtain ⟨i, rfl, HK, HJ, HB⟩ := hrel
    by_cases hi : i < xs.length
    · have hib : decide (i < xs.length) = true := decide_eq_true hi
      have hib2 : decide ((i : Int) < (xs.length : Int)) = true := by simpa using hi
      obtain ⟨ad, e1, p0, p1, p2, p3, p4⟩ := Ref.at_T37 (Kd.C_below HC.out HB.out) (i : Int) (by omega) (by omega)
      subst e1
      rw [rd_cl hi, Int.toNat_natCast] at p0 p1 p2 p3 p4
      have HX : Aside0 (sameB xs[i] = (xs[i].f0 == xs[i].f2)) := ⟨rfl⟩
      have HI : Aside0 (sameB xs[i] = true → firstSame xs = i) := ⟨fun h => firstSame_at hi (fun j hj => HJ.out j hj (by omega)) h⟩
      have HN : Aside0 (sameB xs[i] = false → ∀ j (h : j < i + 1) (hj : j < xs.length), sameB xs[j] = false) := ⟨fun h j hj hj2 => by
        by_cases e : j = i
        · subst e; exact h
        · exact HJ.out j (by omega) hj2⟩
      generalize sameB xs[i] = b at HX HI HN
      generalize xs[i] = x at p0 p1 p2 p3 p4 HX
      obtain ⟨x0, x1, x2, x3, x4⟩ := x
      simp only at p0 p1 p2 p3 p4 HX
      have HSc := Aside0.mk (fun (W : World) => same_calls x0 x1 x2 x3 x4 W)
      rw [← HX.out] at HSc
      clear HJ HX
      have HHi := Aside0.mk hi
      go_wp2_with fail
      (with_reducible refine (HSc.out _).mono ?_)
      rintro e w' ⟨rfl, rfl⟩
      have HB2 : Aside0 (Below w.heap.size w (wr.alloc (.cells #[.int .i64 x0, .int .i64 x1, .int .i64 x2, .int .i64 x3, .int .i64 x4] TCl))) := ⟨HB.out.alloc HB.out.size _⟩
      clear HB HSc
      cases b with
      | true =>
        go_wp2_with fail
        go_ret
        refine ⟨?_, HB2.out⟩
        unfold idxSame
        rw [HI.out (by simp), if_pos HHi.out]; rfl
      | false =>
        go_wp2_with fail
        go_roundg (gk - 1)
        case measure => have := HK.out; have := HHi.out; omega
        case rel => exact ⟨i + 1, by go_num, ⟨by have := HK.out; have := HHi.out; omega⟩, ⟨HN.out (by simp)⟩, HB2⟩
    · have hib : decide (i < xs.length) = false := decide_eq_false hi
      have hib2 : decide ((i : Int) < (xs.length : Int)) = false := by simpa using hi
      have HF : Aside0 (firstSame xs = xs.length) := ⟨firstSame_none fun j hj => HJ.out j (by omega) hj⟩
      clear HJ
      go_wp2_with fail
      go_ret
      exact ⟨by unfold idxSame; rw [HF.out, if_neg (by omega)]; rfl, HB.out⟩

theorem add_at (g o : Nat) : (⟨g, 0, none⟩ : Addr).add o = ⟨g, o, none⟩ := by unfold Addr.add; split <;> simp_all
/-- the cells of a clone -/
def clC (x : SCl) : List Value := [.int .i64 x.f0, .int .i64 x.f1, .int .i64 x.f2, .int .i64 x.f3, .int .i64 x.f4]
/-- clones in a block of the call's own -/
def RowAt (w : World) (g n : Nat) (f : Nat → SCl) : Prop := ∃ cells : Array Value, w.heap[g]? = some (.cells cells TCl (0, 0)) ∧ ∀ i, i < n → ∀ j u, (clC (f i))[j]? = some u → cells[i * 5 + j]? = some u
section
variable {w w1 : World} {g n : Nat} {f : Nat → SCl}
theorem RowAt.block (h : RowAt w g n f) : g < w.heap.size := by obtain ⟨_, h, _⟩ := h; exact blk_lt h
theorem RowAt.below (h : RowAt w g n f) (hb : Below w.heap.size w w1) : RowAt w1 g n f := by
  obtain ⟨cells, h1, h2⟩ := h; exact ⟨cells, blk_below h1 hb, h2⟩
theorem RowAt.cell (h : RowAt w g n f) {i : Nat} (hi : i < n) {j : Nat} {u : Value} (hu : (clC (f i))[j]? = some u) : w.cell? ⟨g, i * 5 + j, none⟩ = some u := by
  obtain ⟨cells, h1, h2⟩ := h; rw [blk_cell h1]; exact h2 i hi j u hu
theorem RowAt.frozen (h : RowAt w g n f) (o : Nat) : w.frozen? ⟨g, o, none⟩ = false := by
  obtain ⟨cells, h1, h2⟩ := h; exact blk_frozen h1 o
theorem RowAt.cells (h : RowAt w g n f) {i : Nat} (hi : i < n) : w.cell? ⟨g, i * 5, none⟩ = some (.int .i64 (f i).f0) ∧ w.cell? ⟨g, i * 5 + 1, none⟩ = some (.int .i64 (f i).f1) ∧ w.cell? ⟨g, i * 5 + 2, none⟩ = some (.int .i64 (f i).f2) ∧
    w.cell? ⟨g, i * 5 + 3, none⟩ = some (.int .i64 (f i).f3) ∧ w.cell? ⟨g, i * 5 + 4, none⟩ = some (.int .i64 (f i).f4) :=
  ⟨h.cell hi (j := 0) rfl, h.cell hi (j := 1) rfl, h.cell hi (j := 2) rfl, h.cell hi (j := 3) rfl, h.cell hi (j := 4) rfl⟩
theorem RowAt.congr (h : RowAt w g n f) {f' : Nat → SCl} (e : ∀ i, i < n → f' i = f i) : RowAt w g n f' := by
  obtain ⟨cells, h1, h2⟩ := h; exact ⟨cells, h1, fun i hi j u hu => h2 i hi j u (by rw [← e i hi]; exact hu)⟩
theorem RowAt.put (h : RowAt w g n f) {i : Nat} (hi : i < n) (x : SCl) :
    RowAt (((((w.setCell ⟨g, i * 5, none⟩ (.int .i64 x.f0)).setCell ⟨g, i * 5 + 1, none⟩ (.int .i64 x.f1)).setCell ⟨g, i * 5 + 2, none⟩ (.int .i64 x.f2)).setCell ⟨g, i * 5 + 3, none⟩ (.int .i64 x.f3)).setCell ⟨g, i * 5 + 4, none⟩ (.int .i64 x.f4)) g n (fun j => if j = i then x else f j) := by
  obtain ⟨cells, h1, h2⟩ := h
  refine ⟨_, blk_set (blk_set (blk_set (blk_set (blk_set h1 _ _) _ _) _ _) _ _) _ _, fun j hj k u hu => ?_⟩
  have hk : k < 5 := (List.getElem?_eq_some_iff.1 hu).1
  dsimp only at hu
  by_cases e : j = i
  · subst e
    rw [if_pos rfl] at hu
    have hl : ∀ k, k < 5 → j * 5 + k < cells.size := fun k hk => by
      have : (clC (f j))[k]? = some ((clC (f j))[k]'(by simpa [clC] using hk)) := List.getElem?_eq_getElem _
      exact (Array.getElem?_eq_some_iff.1 (h2 j hj k _ this)).1
    have hl0 := hl 0 (by omega)
    have hl1 := hl 1 (by omega)
    have hl2 := hl 2 (by omega)
    have hl3 := hl 3 (by omega)
    have hl4 := hl 4 (by omega)
    match k, hk, hu with
    | 0, _, hu => simp [clC] at hu; subst hu; simp [Array.getElem?_setIfInBounds, hl0]; omega
    | 1, _, hu => simp [clC] at hu; subst hu; simp [Array.getElem?_setIfInBounds, hl1]
    | 2, _, hu => simp [clC] at hu; subst hu; simp [Array.getElem?_setIfInBounds, hl2]
    | 3, _, hu => simp [clC] at hu; subst hu; simp [Array.getElem?_setIfInBounds, hl3]
    | 4, _, hu => simp [clC] at hu; subst hu; simp [Array.getElem?_setIfInBounds, hl4]
  · rw [if_neg e] at hu
    rw [← h2 j hj k u hu]
    simp only [Array.getElem?_setIfInBounds]
    rw [if_neg (by omega), if_neg (by omega), if_neg (by omega), if_neg (by omega), if_neg (by omega)]
theorem RowAt.reads (h : RowAt w g n f) {m : Nat} (hm : m ≤ n) (hn : n ≤ 1000000) : Kd.C kCl w (some ⟨g, 0, none⟩) m ((List.range m).map f) := by
  refine ⟨by simp, ?_, fun _ => ⟨_, rfl, fun j p hj => ?_⟩⟩
  · omega
  · have hjm : j < m := by simpa using (List.getElem?_eq_some_iff.1 hj).1
    obtain rfl : f j = p := by simpa [List.getElem?_map, List.getElem?_range hjm] using hj
    refine ⟨clC (f j), rfl, Ref.k37_mk w _, fun i u hu => ?_⟩
    have := h.cell (i := j) (by omega) hu
    show w.cell? (Addr.add ⟨g, 0, none⟩ (j * 5 + i)) = some u
    rw [add_at]; exact this
end
theorem RowAt.of {w : World} {base : Nat} {v : Value} {xs : List SCl} (h : Kd.R kCl TCl w base Yes v xs) (hx : 0 < xs.length) : ∃ g c, v = .slice (some ⟨g, 0, none⟩) xs.length c ∧ base ≤ g ∧ xs.length ≤ c ∧ RowAt w g xs.length (fun i => xs.getD i Ref.z37) := by
  obtain ⟨A, c, rfl, hc, hC⟩ := Kd.R_reads h
  have hC' := hC
  obtain ⟨_, _, h3⟩ := hC'
  obtain ⟨ad, rfl, _⟩ := h3 hx
  obtain ⟨g, rfl⟩ := Kd.R_head h
  have hb : base ≤ g := Kd.R_base h g rfl
  obtain ⟨_, inner, ho, _⟩ := h
  obtain ⟨cells, hcells⟩ := own_typed ho g rfl
  refine ⟨g, c, rfl, hb, hc, cells, hcells, fun i hi j u hu => ?_⟩
  obtain ⟨ad, e, p0, p1, p2, p3, p4⟩ := Ref.at_T37 hC (i : Int) (by omega) (by omega)
  injection e with e
  subst e
  have hx : (Ref.rd_T37 xs (i : Int)) = xs.getD i Ref.z37 := by unfold Ref.rd_T37; rw [Int.toNat_natCast]
  rw [hx, Int.toNat_natCast] at p0 p1 p2 p3 p4
  rw [add_at] at p0 p1 p2 p3 p4
  rw [blk_cell hcells] at p0 p1 p2 p3 p4
  have hj : j < 5 := (List.getElem?_eq_some_iff.1 hu).1
  match j, hj, hu with
  | 0, _, hu => simp [clC] at hu; subst hu; simpa using p0
  | 1, _, hu => simp [clC] at hu; subst hu; simpa using p1
  | 2, _, hu => simp [clC] at hu; subst hu; simpa using p2
  | 3, _, hu => simp [clC] at hu; subst hu; simpa using p3
  | 4, _, hu => simp [clC] at hu; subst hu; simpa using p4

/-- a clone between two texts stays -/
def keepS (xs : List SCl) : List SCl := xs.filter fun x => !sameB x
theorem keepS_len (xs : List SCl) : (keepS xs).length ≤ xs.length := List.length_filter_le _ _
theorem keepS_take {xs : List SCl} {i : Nat} (hi : i < xs.length) : keepS (xs.take (i + 1)) = if sameB (xs.getD i Ref.z37) = true then keepS (xs.take i) else keepS (xs.take i) ++ [xs.getD i Ref.z37] := by
  have e : xs.getD i Ref.z37 = xs[i] := by rw [List.getD_eq_getElem?_getD, List.getElem?_eq_getElem hi]; rfl
  rw [e]
  unfold keepS
  rw [List.take_succ_eq_append_getElem hi, List.filter_append]
  cases h : sameB xs[i] <;> simp [List.filter_cons, h]
theorem keepS_none : ∀ {xs : List SCl}, firstSame xs = xs.length → keepS xs = xs
  | [], _ => rfl
  | x :: xs, h => by
    rw [firstSame_cons] at h
    cases hb : sameB x with
    | true => rw [hb] at h; simp at h
    | false =>
      rw [hb] at h
      have : keepS xs = xs := keepS_none (by simpa using h)
      unfold keepS at this ⊢
      rw [List.filter_cons_of_pos (by simp [hb]), this]
theorem firstSame_spec : ∀ {xs : List SCl}, (∀ j (hj : j < firstSame xs), sameB (xs.getD j Ref.z37) = false) ∧ (firstSame xs < xs.length → sameB (xs.getD (firstSame xs) Ref.z37) = true)
  | [] => ⟨fun j hj => absurd hj (Nat.not_lt_zero _), fun h => absurd h (Nat.not_lt_zero _)⟩
  | x :: xs => by
    rw [firstSame_cons]
    cases hb : sameB x with
    | true => simp [hb]
    | false =>
      obtain ⟨h1, h2⟩ := firstSame_spec (xs := xs)
      simp only [Bool.false_eq_true, if_false]
      refine ⟨fun j hj => ?_, fun h => ?_⟩
      · cases j with
        | zero => exact hb
        | succ j => exact h1 j (by omega)
      · exact h2 (by simpa using h)
theorem keepS_first {xs : List SCl} : ∀ j, j ≤ firstSame xs → keepS (xs.take j) = xs.take j ∧ (xs.take j).length = j
  | 0, _ => ⟨rfl, rfl⟩
  | j + 1, h => by
    have hlt : j < xs.length := by have := firstSame_le xs; omega
    obtain ⟨h1, h2⟩ := keepS_first (xs := xs) j (by omega)
    have e : xs.getD j Ref.z37 = xs[j] := by rw [List.getD_eq_getElem?_getD, List.getElem?_eq_getElem hlt]; rfl
    rw [keepS_take hlt, firstSame_spec.1 j (by omega), if_neg (by simp), h1, e, List.take_succ_eq_append_getElem hlt]
    exact ⟨rfl, by rw [List.length_append, h2]; rfl⟩

theorem below_cells {B : Nat} {a : World} (b : Nat) (hb : B ≤ b) : ∀ (vs : List Value) (o : Nat) {w : World}, Below B a w → Below B a (w.setCells b o vs)
  | [], _, _, h => h
  | v :: vs, o, _, h => below_cells b hb vs (o + 1) (h.setCell (by exact hb) v)

theorem zeroCl (w : World) : (zeroValue 37).run Tryz.prog w = .ok (.agg #[.int .i64 0, .int .i64 0, .int .i64 0, .int .i64 0, .int .i64 0]) w := by kernel_rfl
theorem run_clear_gen {P : Program} (w w' : World) (t e ty : TypeId) (z : Value) (ht : P.underlying t = some (.slice e)) (hv : ∀ w, (zeroValue e).run P w = .ok z w) (b o n c : Nat) (hn : 0 < n) (vs : List Value)
    (hvs : (Builtin.zeroCells z.cells n).toList = vs) (hst : (storeCells ⟨b, o, none⟩ vs 0).run P w = .ok () w') : (Builtin.clear_ #[t] ty #[.slice (some ⟨b, o, none⟩) n c]).run P w = .ok (.tuple #[]) w' := by
  obtain ⟨m, rfl⟩ : ∃ m, n = m + 1 := ⟨n - 1, by omega⟩
  simp [Builtin.clear_, run_underlying ht, hv, hvs, hst]
theorem run_clear_rows (w : World) (g o n c : Nat) (hn : 0 < n) (hc : ∀ j, j < n * 5 → (w.cell? ⟨g, o + j, none⟩).isSome = true) (hf : ∀ j, j < n * 5 → w.frozen? ⟨g, o + j, none⟩ = false) :
    ∃ vs : List Value, ∀ ty, (Builtin.clear_ #[29] ty #[.slice (some ⟨g, o, none⟩) n c]).run Tryz.prog w = .ok (.tuple #[]) (w.setCells g o vs) := by
  refine ⟨(Builtin.zeroCells (Value.agg #[.int .i64 0, .int .i64 0, .int .i64 0, .int .i64 0, .int .i64 0]).cells n).toList, fun ty => ?_⟩
  have hl : (Builtin.zeroCells (Value.agg #[.int .i64 0, .int .i64 0, .int .i64 0, .int .i64 0, .int .i64 0]).cells n).toList.length = n * 5 := by simp [Builtin.zeroCells, Value.cells]
  have h1 : ∀ v ∈ (Builtin.zeroCells (Value.agg #[.int .i64 0, .int .i64 0, .int .i64 0, .int .i64 0, .int .i64 0]).cells n).toList, v.oneCell' = true := by
    intro v hv
    simp only [Builtin.zeroCells, Value.cells, Array.toList_map, List.mem_map] at hv
    obtain ⟨i, _, rfl⟩ := hv
    have : i % 5 = 0 ∨ i % 5 = 1 ∨ i % 5 = 2 ∨ i % 5 = 3 ∨ i % 5 = 4 := by omega
    simp only [List.size_toArray, List.length_cons, List.length_nil, Nat.reduceAdd]
    rcases this with e | e | e | e | e <;> rw [e] <;> rfl
  have hst := run_storeCells_cells (P := Tryz.prog) g o _ 0 w (by rw [hl]; simpa using hc) (by rw [hl]; simpa using hf) h1
  simp only [Nat.add_zero] at hst
  exact run_clear_gen w _ _ _ ty _ Tryz.underlying29 zeroCl g o n c hn _ rfl hst
theorem cut_tail (g n c i : Nat) (hi : i < n) (hc : n ≤ c) : ∀ W : World, (Instr.slice 29 (.slice (some ⟨g, 0, none⟩) n c) (some (.int .i64 (i : Nat))) none none).run Tryz.prog W = .ok (.slice (some ⟨g, i * 5, none⟩) (n - i) (c - i)) W := by
  obtain ⟨i0, hi0, hzz⟩ := Option.map_eq_some_iff.1 (show (Tryz.prog.info? 37).map (fun i => i.size) = some 5 by kernel_rfl)
  intro W
  have := cut_from (P := Tryz.prog) 29 37 .i64 Tryz.underlying29 hi0 5 hzz (some ⟨g, 0, none⟩) n c (i : Nat) (by omega) (by omega) W
  rw [Int.toNat_natCast, if_neg (by omega)] at this
  rw [this]
  simp only [Option.map_some, add_at]
theorem cut_head (g n c i : Nat) (hi : i ≤ n) (hc : n ≤ c) : ∀ W : World, (Instr.slice 29 (.slice (some ⟨g, 0, none⟩) n c) none (some (.int .i64 (i : Nat))) none).run Tryz.prog W = .ok (.slice (some ⟨g, 0, none⟩) i c) W := by
  obtain ⟨i0, hi0, hzz⟩ := Option.map_eq_some_iff.1 (show (Tryz.prog.info? 37).map (fun i => i.size) = some 5 by kernel_rfl)
  intro W
  have := cut_to (P := Tryz.prog) 29 37 .i64 Tryz.underlying29 hi0 (some ⟨g, 0, none⟩) n c (i : Nat) (by omega) (by omega) hc W
  rwa [Int.toNat_natCast] at this
/-- behind a clear of the tail the head stands -/
theorem RowAt.clear {w : World} {g n : Nat} {f : Nat → SCl} (h : RowAt w g n f) {i : Nat} (hi : i < n) (c : Nat) (hn : n ≤ 1000000) : ∃ vs : List Value, (∀ ty, (Builtin.clear_ #[29] ty #[.slice (some ⟨g, i * 5, none⟩) (n - i) (c - i)]).run Tryz.prog w = .ok (.tuple #[]) (w.setCells g (i * 5) vs)) ∧
    Kd.C kCl (w.setCells g (i * 5) vs) (some ⟨g, 0, none⟩) i ((List.range i).map f) := by
  have hcell : ∀ j, j < (n - i) * 5 → (w.cell? ⟨g, i * 5 + j, none⟩).isSome = true := fun j hj => by
    have hk : j % 5 = 0 ∨ j % 5 = 1 ∨ j % 5 = 2 ∨ j % 5 = 3 ∨ j % 5 = 4 := by omega
    have e : i * 5 + j = (i + j / 5) * 5 + j % 5 := by omega
    obtain ⟨p0, p1, p2, p3, p4⟩ := h.cells (i := i + j / 5) (by omega)
    rw [e]
    rcases hk with e | e | e | e | e <;> rw [e]
    · rw [Nat.add_zero, p0]; rfl
    · rw [p1]; rfl
    · rw [p2]; rfl
    · rw [p3]; rfl
    · rw [p4]; rfl
  obtain ⟨vs, hvs⟩ := run_clear_rows w g (i * 5) (n - i) (c - i) (by omega) hcell (fun j _ => h.frozen _)
  refine ⟨vs, hvs, ?_⟩
  have hC := h.reads (m := i) (by omega) hn
  refine ⟨hC.1, hC.2.1, fun h0 => ?_⟩
  obtain ⟨ad, e, hr⟩ := hC.2.2 h0
  refine ⟨ad, e, fun j p hj => ?_⟩
  have hjm : j < i := by simpa using (List.getElem?_eq_some_iff.1 hj).1
  obtain ⟨cs, h1, h2, h3⟩ := hr j p hj
  refine ⟨cs, h1, ?_, fun k u hu => ?_⟩
  · rw [Ref.k37_open h2]; exact Ref.k37_mk _ _
  · injection e with e
    subst e
    have hk : k < 5 := by have := (List.getElem?_eq_some_iff.1 hu).1; rw [h1] at this; exact this
    rw [← h3 k u hu]
    refine World.cell?_setCells_out _ _ _ _ _ fun _ _ => .inl ?_
    change ((⟨g, 0, none⟩ : Addr).add (j * 5 + k)).off < i * 5
    rw [add_at]
    show j * 5 + k < i * 5
    omega

def DelPost (w : World) (base : Nat) (xs : List SCl) (e : Ending) (w' : World) : Prop :=
  ∃ A c, e = .returned (.slice A (keepS xs).length c) ∧ (keepS xs).length ≤ c ∧ Kd.C kCl w' A (keepS xs).length (keepS xs) ∧ Below base w w'

set_option maxHeartbeats 8000000 in
set_option maxRecDepth 100000 in
theorem delete_calls (w : World) (base : Nat) (v : Value) (xs : List SCl) (hR : Kd.R kCl TCl w base Yes v xs) (hb : base ≤ w.heap.size) (hn : xs.length ≤ 1000000) :
    Calls Tryz.prog 8 #[v, .func (.func 10) #[] #[]] w (DelPost w base xs) := by
  by_cases hl : firstSame xs < xs.length
  · have hx : 0 < xs.length := by omega
    obtain ⟨g, c, rfl, hg, hc, hrow⟩ := RowAt.of hR hx
    have HI := Aside0.mk (fun (W : World) (h : Kd.C kCl W (some ⟨g, 0, none⟩) xs.length xs) => index_same W (some ⟨g, 0, none⟩) c xs h hn)
    have hC : Kd.C kCl w (some ⟨g, 0, none⟩) xs.length xs := (Kd.R_reads' hR).2.2
    have he : idxSame xs = ((firstSame xs : Nat) : Int) := by unfold idxSame; rw [if_pos hl]
    rw [he] at HI
    have HC := Aside0.mk hC
    have HRow := Aside0.mk hrow
    have HG := Aside0.mk hg
    have Hc := Aside0.mk hc
    have Hbs := Aside0.mk hb
    have HF : Aside0 (keepS (xs.take (firstSame xs)) = xs.take (firstSame xs) ∧ (xs.take (firstSame xs)).length = firstSame xs) := ⟨keepS_first _ (Nat.le_refl _)⟩
    have HS : Aside0 (sameB (xs.getD (firstSame xs) Ref.z37) = true) := ⟨firstSame_spec.2 hl⟩
    have Hl := Aside0.mk hl
    clear hC hrow hg hc hb hR he hl
    have hb1 : (((firstSame xs : Nat) : Int) == -1) = false := by rw [beq_eq_false_iff_ne]; omega
    generalize firstSame xs = i0 at HI HF HS Hl hb1
    go_enter Tryz.func8, Tryz.ntmps8
    go_wp2_with fail
    (with_reducible refine (HI.out _ HC.out).mono ?_)
    rintro e w2 ⟨rfl, hb2⟩
    have HB2 : Aside0 (Below base w w2) := ⟨hb2.mono Hbs.out⟩
    have HRow2 : Aside0 (RowAt w2 g xs.length (fun i => xs.getD i Ref.z37)) := ⟨HRow.out.below hb2⟩
    clear hb2 HRow HI
    go_wp2_with fail
    go_loopg [5, 6] (xs.length - (i0 + 1)) (fun gg v5 v6 wr => ∃ (i j : Nat) (f : Nat → SCl), v5 = .int .i64 i ∧ v6 = .int .i64 j ∧ Aside0 (j + gg = xs.length ∧ i < j) ∧ Aside0 (RowAt wr g xs.length f) ∧ Aside0 (∀ q, j ≤ q → f q = xs.getD q Ref.z37) ∧
        Aside0 ((List.range i).map f = keepS (xs.take j)) ∧ Aside0 (Below base w wr))
    case atStart =>
      have h1 := keepS_take Hl.out
      rw [HS.out, if_pos rfl, HF.out.1] at h1
      have h2 := Hl.out
      have hw : wrap64 ((i0 : Int) + 1) = ((i0 + 1 : Nat) : Int) := by rw [IntWalk.wrap64_in _ (by omega)]; omega
      refine ⟨i0, i0 + 1, fun i => xs.getD i Ref.z37, rfl, by rw [hw], ⟨by omega, by omega⟩, HRow2, ⟨fun _ _ => rfl⟩, ⟨?_⟩, HB2⟩
      rw [h1]
      refine List.ext_getElem (by simp; omega) fun k hk1 hk2 => ?_
      simp only [List.length_map, List.length_range] at hk1
      rw [List.getElem_map, List.getElem_range, List.getElem_take, List.getD_eq_getElem?_getD, List.getElem?_eq_getElem (by omega)]; rfl
    case round =>
      obtain ⟨i, j, f, rfl, rfl, HK, HRw, HQ, HM, HB⟩ := hrel
      clear HRow2 HB2
      by_cases hj : j < xs.length
      · have hib : decide (j < xs.length) = true := decide_eq_true hj
        have hib2 : decide ((j : Int) < (xs.length : Int)) = true := by simpa using hj
        obtain ⟨p0, p1, p2, p3, p4⟩ := HRw.out.cells hj
        have HHj := Aside0.mk hj
        have hx : f j = xs.getD j Ref.z37 := HQ.out j (Nat.le_refl _)
        have HT := Aside0.mk (keepS_take hj)
        rw [← hx] at HT
        have HX : Aside0 (sameB (f j) = ((f j).f0 == (f j).f2)) := ⟨rfl⟩
        clear hx
        generalize f j = x at p0 p1 p2 p3 p4 HT HX
        obtain ⟨x0, x1, x2, x3, x4⟩ := x
        simp only at p0 p1 p2 p3 p4 HX
        have HSc := Aside0.mk (fun (W : World) => same_calls x0 x1 x2 x3 x4 W)
        rw [← HX.out] at HSc
        clear HX
        generalize sameB ⟨x0, x1, x2, x3, x4⟩ = b at HSc HT
        have HSc2 : Aside0 (∀ W : World, Calls Tryz.prog 10 #[.agg #[.int .i64 x0, .int .i64 x1, .int .i64 x2, .int .i64 x3, .int .i64 x4]] W fun e w' => e = .returned (.bool b) ∧ Below W.heap.size W w') :=
          ⟨fun W => (HSc.out W).mono fun e w' ⟨he, hw⟩ => ⟨he, by rw [hw]; exact (Below.refl _ _).alloc (Nat.le_refl _) _⟩⟩
        clear HSc
        go_wp2_with fail
        (with_reducible refine (HSc2.out _).mono ?_)
        rintro e w4 ⟨rfl, hb4⟩
        have hnew := blk_below (heap_alloc_new wr (.cells #[.int .i64 x0, .int .i64 x1, .int .i64 x2, .int .i64 x3, .int .i64 x4] TCl)) hb4
        have hb5 : Below wr.heap.size wr w4 := ((Below.refl _ _).alloc (Nat.le_refl _) _).trans (hb4.mono (by simp))
        have HR4 := Aside0.mk (HRw.out.below hb5)
        have HB4 : Aside0 (Below base w w4) := ⟨HB.out.trans (hb5.mono (Nat.le_trans Hbs.out HB.out.size))⟩
        have q0 := blk_cell hnew 0
        have q1 := blk_cell hnew 1
        have q2 := blk_cell hnew 2
        have q3 := blk_cell hnew 3
        have q4 := blk_cell hnew 4
        clear p0 p1 p2 p3 p4 hb4 hb5 hnew HSc2 HRw HB
        generalize wr.heap.size = bx at q0 q1 q2 q3 q4 ⊢
        cases b with
        | true =>
          go_wp2_with fail
          go_roundg (gk - 1)
          case measure => have := HK.out; have := HHj.out; omega
          case rel =>
            have h1 := HK.out
            have h2 := HHj.out
            exact ⟨i, j + 1, f, rfl, by go_num, ⟨by omega, by omega⟩, HR4, ⟨fun q hq => HQ.out q (by omega)⟩, ⟨by rw [HM.out, HT.out]; simp⟩, HB4⟩
        | false =>
          have hij : i < xs.length := by have := HK.out; omega
          obtain ⟨p0, p1, p2, p3, p4⟩ := HR4.out.cells hij
          have f0 := HR4.out.frozen (i * 5)
          have f1 := HR4.out.frozen (i * 5 + 1)
          have f2 := HR4.out.frozen (i * 5 + 2)
          have f3 := HR4.out.frozen (i * 5 + 3)
          have f4 := HR4.out.frozen (i * 5 + 4)
          generalize f i = y at p0 p1 p2 p3 p4
          obtain ⟨y0, y1, y2, y3, y4⟩ := y
          simp only at p0 p1 p2 p3 p4
          go_wp2_with fail
          go_roundg (gk - 1)
          case measure => have := HK.out; have := HHj.out; omega
          case rel =>
            have h1 := HK.out
            have h2 := HHj.out
            refine ⟨i + 1, j + 1, fun k => if k = i then ⟨x0, x1, x2, x3, x4⟩ else f k, by go_num, by go_num, ⟨by omega, by omega⟩, ⟨HR4.out.put hij ⟨x0, x1, x2, x3, x4⟩⟩, ⟨fun q hq => ?_⟩, ⟨?_⟩, ⟨?_⟩⟩
            · show (if q = i then _ else f q) = _
              rw [if_neg (by omega)]; exact HQ.out q (by omega)
            · rw [HT.out, if_neg (by simp), ← HM.out, List.range_succ, List.map_append]
              congr 1
              · refine List.map_congr_left fun k hk => ?_
                rw [List.mem_range] at hk
                rw [if_neg (by omega)]
              · simp
            · exact ((((HB4.out.setCell HG.out _).setCell HG.out _).setCell HG.out _).setCell HG.out _).setCell HG.out _
      · have hib : decide (j < xs.length) = false := decide_eq_false hj
        have hib2 : decide ((j : Int) < (xs.length : Int)) = false := by simpa using hj
        have hij : i < xs.length := by have := HK.out; omega
        have hs1 := cut_tail g xs.length c i hij Hc.out
        have hs2 := cut_head g xs.length c i (Nat.le_of_lt hij) Hc.out
        obtain ⟨vs, hcl, hC5⟩ := HRw.out.clear hij c hn
        have HC5 := Aside0.mk hC5
        clear hC5
        go_wp2_with fail
        go_ret
        have he : (List.range i).map f = keepS xs := by rw [HM.out, List.take_of_length_le (by omega)]
        have hl : i = (keepS xs).length := by rw [← he]; simp
        refine ⟨some ⟨g, 0, none⟩, c, by rw [← hl]; rfl, by rw [← hl]; have := Hc.out; omega, ?_, below_cells g HG.out _ _ HB.out⟩
        rw [← he, List.length_map, List.length_range]
        exact HC5.out
  · have he : idxSame xs = -1 := by unfold idxSame; rw [if_neg hl]
    obtain ⟨A, c, rfl, hc, hC⟩ := Kd.R_reads hR
    have HI := Aside0.mk (index_same w A c xs hC hn)
    rw [he] at HI
    have HK : Aside0 (keepS xs = xs) := ⟨keepS_none (by have := firstSame_le xs; omega)⟩
    have HC := Aside0.mk hC
    have Hc := Aside0.mk hc
    have Hbs := Aside0.mk hb
    clear he hC hR hc hb hl
    go_enter Tryz.func8, Tryz.ntmps8
    go_wp2_with fail
    (with_reducible refine HI.out.mono ?_)
    rintro e w2 ⟨rfl, hb2⟩
    have HB2 : Aside0 (Below base w w2) := ⟨hb2.mono Hbs.out⟩
    have HC2 := Aside0.mk (Kd.C_below HC.out hb2)
    clear hb2 HI
    go_wp2_with fail
    go_ret
    exact ⟨A, c, by rw [HK.out]; rfl, by rw [HK.out]; exact Hc.out, by rw [HK.out]; exact HC2.out, HB2.out⟩
end Go.Proofs.YtbakoigejihnaaaGreatDoor.Dl
end
section
set_option linter.unusedSectionVars false
set_option linter.unusedSimpArgs false
set_option linter.unusedVariables false
namespace Go.Proofs.YtbakoigejihnaaaGreatDoor.Fp
open Go.RowKit Go.Proofs.YtbakoigejihnaaaGreatDoorW.PrintWords Go.Proofs.YtbakoigejihnaaaGreatDoorW.PrintLast Go.Proofs.YtbakoigejihnaaaGreatDoorW.PrintMore
abbrev TPr : TypeId := 88
abbrev kPr : Kd (Int × Int) := Kd.pair (Kd.int .i64) (Kd.int .i64)
theorem kPr_open {w : World} {x : Int × Int} {cs : List Value} (h : kPr.K w x cs) : cs = [.int .i64 x.1, .int .i64 x.2] := by
  obtain ⟨_, _, rfl, rfl, rfl⟩ := h
  exact rfl
theorem at_pr {w : World} {A : Option Addr} {n : Nat} {T : List (Int × Int)} (h : Kd.C kPr w A n T) {i : Nat} (hi : i < n) :
    ∃ ad, A = some ad ∧ w.cell? (ad.add (i * 2)) = some (.int .i64 (T.getD i (0, 0)).1) ∧ w.cell? ⟨(ad.add (i * 2)).block, (ad.add (i * 2)).off + 1, none⟩ = some (.int .i64 (T.getD i (0, 0)).2) := by
  obtain ⟨ad, c, e, _, hK, hc0⟩ := Kd.C_get h ((0 : Int), (0 : Int)) (i : Int) (by omega) (by omega)
  have hc : ∀ j u, c[j]? = some u → w.cell? (ad.add ((i : Int).toNat * 2 + j)) = some u := hc0
  obtain rfl := kPr_open hK
  rw [Int.toNat_natCast] at hc
  exact ⟨ad, e, hc 0 _ rfl, by rw [← add_field _ _ 1 (by omega)]; exact hc 1 _ rfl⟩

/-- two fingerprints are the same -/
theorem eqPr (d : Nat) (w : World) (x0 y0 x1 y1 : Int) :
    (Op.equalIn (d + 2) TPr (.agg #[.int .i64 x0, .int .i64 x1]) (.agg #[.int .i64 y0, .int .i64 y1])).run Tryz.prog w = .ok (x0 == y0 && x1 == y1) w := by
  refine eqA_of Tryz.underlying88 (by kernel_rfl) ?_
  refine eqf_cons (by rfl) (by go_simp; rfl) (by go_simp; rfl) (by go_simp) ?_
  exact eqf_last (by rfl) (by go_simp; rfl) (by go_simp; rfl) (by go_simp)

def inB (qs : List (Int × Int)) (y : Int × Int) : Bool := qs.any fun z => z.1 == y.1 && z.2 == y.2
theorem inB_of {qs : List (Int × Int)} {y : Int × Int} (h : y ∈ qs) : inB qs y = true := by
  unfold inB; rw [List.any_eq_true]; exact ⟨y, h, by simp⟩
/-- a place that is right for what is looked for, or none -/
def IdxPost (w : World) (b : Bool) (e : Ending) (w' : World) : Prop := (∃ r : Int, e = .returned (.int .i64 r) ∧ decide (0 ≤ r) = b) ∧ Below w.heap.size w w'

theorem any_before {α : Type} {p : α → Bool} {l : List α} (h : ∀ j (hj : j < l.length), p l[j] = false) : l.any p = false := by
  rw [List.any_eq_false]
  intro x hx
  obtain ⟨j, hj, rfl⟩ := List.mem_iff_getElem.1 hx
  rw [h j hj]; simp
theorem any_at {α : Type} {p : α → Bool} {l : List α} {i : Nat} (hi : i < l.length) (h : p l[i] = true) : l.any p = true := by
  rw [List.any_eq_true]; exact ⟨_, List.getElem_mem hi, h⟩
theorem getD_at {l : List (Int × Int)} {i : Nat} (hi : i < l.length) : l.getD i (0, 0) = l[i] := by rw [List.getD_eq_getElem?_getD, List.getElem?_eq_getElem hi]; rfl

set_option maxHeartbeats 4000000 in
set_option maxRecDepth 100000 in
theorem index_calls (w : World) (A : Option Addr) (c : Nat) (qs : List (Int × Int)) (hC : Kd.C kPr w A qs.length qs) (hn : qs.length ≤ 1000000) (h a : Int) :
    Calls Tryz.prog 72 #[.slice A qs.length c, .agg #[.int .i64 h, .int .i64 a]] w (IdxPost w (inB qs (h, a))) := by
  have HC := Aside0.mk hC
  clear hC
  go_enter Tryz.func72, Tryz.ntmps72
  go_wp2_with fail
  obtain ⟨W1, hW1⟩ : ∃ W1, W1 = w.alloc (.cells #[.int .i64 h, .int .i64 a] TPr) := ⟨_, rfl⟩
  rw [← hW1]
  have hnew := heap_alloc_new w (.cells #[.int .i64 h, .int .i64 a] TPr)
  rw [← hW1] at hnew
  have hb1 : Below w.heap.size w W1 := by rw [hW1]; exact (Below.refl _ _).alloc (Nat.le_refl _) _
  have HH := Aside0.mk hnew
  have HB1 := Aside0.mk hb1
  clear hW1 hnew hb1
  generalize w.heap.size = bx at HH ⊢
  have HX : Aside0 (∀ W, Below W1.heap.size W1 W → W.cell? ⟨bx, 0, none⟩ = some (.int .i64 h) ∧ W.cell? ⟨bx, 1, none⟩ = some (.int .i64 a)) := ⟨fun W hb => ⟨blk_cell (blk_below HH.out hb) 0, blk_cell (blk_below HH.out hb) 1⟩⟩
  clear HH
  go_loopg [8] qs.length (fun gg v8 wr => ∃ i : Nat, v8 = .int .i64 i ∧ Aside0 (i + gg = qs.length) ∧ Aside0 (∀ j (h1 : j < i) (hj : j < qs.length), (qs[j].1 == h && qs[j].2 == a) = false) ∧ Aside0 (Below W1.heap.size W1 wr))
  case atStart => exact ⟨0, rfl, ⟨by omega⟩, ⟨fun j h => absurd h (Nat.not_lt_zero _)⟩, ⟨Below.refl _ _⟩⟩
  case round =>
    obtain ⟨i, rfl, HK, HJ, HB⟩ := hrel
    have HBw : Aside0 (∀ n, Below w.heap.size w (wr.drewN n)) := ⟨fun n => pw_below_drewN (HB1.out.trans (HB.out.mono HB1.out.size)) n⟩
    by_cases hi : i < qs.length
    · have hib : decide (i < qs.length) = true := decide_eq_true hi
      have hib2 : decide ((i : Int) < (qs.length : Int)) = true := by simpa using hi
      obtain ⟨ad, e1, p0, p1⟩ := at_pr (Kd.C_below HC.out (HB1.out.trans (HB.out.mono HB1.out.size))) hi
      subst e1
      rw [getD_at hi] at p0 p1
      obtain ⟨x0, x1⟩ := HX.out _ HB.out
      have HI : Aside0 ((qs[i].1 == h && qs[i].2 == a) = true → inB qs (h, a) = true) := ⟨fun h => any_at hi h⟩
      have HN : Aside0 ((qs[i].1 == h && qs[i].2 == a) = false → ∀ j (h1 : j < i + 1) (hj : j < qs.length), (qs[j].1 == h && qs[j].2 == a) = false) := ⟨fun h j hj hj2 => by
        by_cases e : j = i
        · subst e; exact h
        · exact HJ.out j (by omega) hj2⟩
      have he : ∀ d W, (Op.equalIn (d + 2) 88 (.agg #[.int .i64 h, .int .i64 a]) (.agg #[.int .i64 qs[i].1, .int .i64 qs[i].2])).run Tryz.prog W = .ok (qs[i].1 == h && qs[i].2 == a) W := fun d W => by
        rw [eqPr, Bool.beq_comm (a := qs[i].1), Bool.beq_comm (a := qs[i].2)]
      generalize (qs[i].1 == h && qs[i].2 == a) = b at HI HN he
      generalize qs[i].1 = y0 at p0 he
      generalize qs[i].2 = y1 at p1 he
      have HHi := Aside0.mk hi
      clear HJ
      cases b with
      | true =>
        have HR := Aside0.mk (HI.out rfl)
        clear HI HN
        go_wp2_with fail
        go_quiet (fail)
        go_wp2_with fail
        go_ret
        exact ⟨⟨_, rfl, by rw [HR.out]; simp⟩, HBw.out _⟩
      | false =>
        have HR := Aside0.mk (HN.out rfl)
        clear HI HN
        go_wp2_with fail
        go_quiet (fail)
        go_wp2_with fail
        go_roundg (gk - 1)
        case measure => have := HK.out; have := HHi.out; omega
        case rel => exact ⟨i + 1, by go_num, ⟨by have := HK.out; have := HHi.out; omega⟩, HR, ⟨pw_below_drewN HB.out _⟩⟩
    · have hib : decide (i < qs.length) = false := decide_eq_false hi
      have hib2 : decide ((i : Int) < (qs.length : Int)) = false := by simpa using hi
      have HR : Aside0 (inB qs (h, a) = false) := ⟨any_before fun j hj => HJ.out j (by omega) hj⟩
      clear HJ
      go_wp2_with fail
      go_ret
      exact ⟨⟨-1, rfl, by rw [HR.out]; rfl⟩, HBw.out 0⟩

/-- slices.Contains -/
def BoolPost (w : World) (b : Bool) (e : Ending) (w' : World) : Prop := e = .returned (.bool b) ∧ Below w.heap.size w w'
set_option maxHeartbeats 4000000 in
set_option maxRecDepth 100000 in
theorem contains_calls (w : World) (A : Option Addr) (c : Nat) (qs : List (Int × Int)) (hC : Kd.C kPr w A qs.length qs) (hn : qs.length ≤ 1000000) (h a : Int) :
    Calls Tryz.prog 36 #[.slice A qs.length c, .agg #[.int .i64 h, .int .i64 a]] w (BoolPost w (inB qs (h, a))) := by
  have HC := Aside0.mk hC
  have HI := Aside0.mk (fun (W : World) (hC : Kd.C kPr W A qs.length qs) => index_calls W A c qs hC hn h a)
  clear hC
  generalize inB qs (h, a) = b at HI ⊢
  go_enter Tryz.func36, Tryz.ntmps36
  go_wp2_with fail
  (with_reducible refine (HI.out _ (Kd.C_below HC.out ((Below.refl _ _).alloc (Nat.le_refl _) _))).mono ?_)
  rintro e w' ⟨⟨r, rfl, hr⟩, hb⟩
  have HB : Aside0 (Below w.heap.size w w') := ⟨((Below.refl _ _).alloc (Nat.le_refl _) _).trans (hb.mono (by simp))⟩
  clear hb
  go_wp2_with fail
  go_ret
  exact ⟨rfl, HB.out⟩

/-- does a fingerprint of the first text lie in a clone, and has the second text it at the same place of the clone -/
def hitB (x1 x3 x4 k : Int) (qs : List (Int × Int)) (y : Int × Int) : Bool := decide (x1 ≤ y.2) && (decide (y.2 - x1 + k ≤ x4) && inB qs (y.1, x3 + (y.2 - x1)))

set_option maxHeartbeats 4000000 in
set_option maxRecDepth 100000 in
theorem hit_calls (w : World) (A : Option Addr) (c : Nat) (qs : List (Int × Int)) (hC : Kd.C kPr w A qs.length qs) (hn : qs.length ≤ 1000000) (bx bk bq : Nat) (x0 x1 x2 x3 x4 k : Int)
    (hx : w.heap[bx]? = some (.cells #[.int .i64 x0, .int .i64 x1, .int .i64 x2, .int .i64 x3, .int .i64 x4] 37 (0, 0))) (hk : w.heap[bk]? = some (.cells #[.int .i64 k] 3 (0, 0)))
    (hq : w.heap[bq]? = some (.cells #[.slice A qs.length c] 74 (0, 0))) (h a : Int) (a0 : 0 ≤ a) (a1 : a ≤ 1000000) (b0 : 0 ≤ x1) (b1 : x1 ≤ 1000000) (c0 : 0 ≤ x3) (c1 : x3 ≤ 1000000) (k0 : 0 ≤ k) (k1 : k ≤ 1000000) :
    Calls Tryz.prog 35 #[.agg #[.int .i64 h, .int .i64 a], .pointer (some ⟨bx, 0, none⟩), .pointer (some ⟨bk, 0, none⟩), .pointer (some ⟨bq, 0, none⟩)] w (BoolPost w (hitB x1 x3 x4 k qs (h, a))) := by
  have HC := Aside0.mk hC
  have HI := Aside0.mk (fun (W : World) (hC : Kd.C kPr W A qs.length qs) => contains_calls W A c qs hC hn h (x3 + (a - x1)))
  have HX := Aside0.mk (And.intro hx (And.intro hk hq))
  have HT : Aside0 (hitB x1 x3 x4 k qs (h, a) = (decide (x1 ≤ a) && (decide (a - x1 + k ≤ x4) && inB qs (h, x3 + (a - x1))))) := ⟨rfl⟩
  generalize hitB x1 x3 x4 k qs (h, a) = r at HT ⊢
  generalize inB qs (h, x3 + (a - x1)) = b at HI HT
  have HW : Aside0 (Below w.heap.size w (w.alloc (.cells #[.int .i64 h, .int .i64 a] TPr))) := ⟨(Below.refl _ _).alloc (Nat.le_refl _) _⟩
  have hnew := heap_alloc_new w (.cells #[.int .i64 h, .int .i64 a] TPr)
  have z0 := blk_cell (blk_below hx HW.out) 0
  have z1 := blk_cell (blk_below hx HW.out) 1
  have z2 := blk_cell (blk_below hx HW.out) 2
  have z3 := blk_cell (blk_below hx HW.out) 3
  have z4 := blk_cell (blk_below hx HW.out) 4
  have zk := blk_cell (blk_below hk HW.out) 0
  have zq := blk_cell (blk_below hq HW.out) 0
  have za := blk_cell hnew 0
  have zb := blk_cell hnew 1
  clear hC hx hk hq hnew
  by_cases h1 : x1 ≤ a
  · have g1 : decide (x1 ≤ a) = true := decide_eq_true h1
    by_cases h2 : a - x1 + k ≤ x4
    · have g2 : decide (a - x1 + k ≤ x4) = true := decide_eq_true h2
      have HR : Aside0 (r = b) := ⟨by rw [HT.out, g1, g2]; rfl⟩
      clear HT
      go_enter Tryz.func35, Tryz.ntmps35
      go_wp2_with fail
      (with_reducible refine (HI.out _ (Kd.C_below HC.out HW.out)).mono ?_)
      rintro e w' ⟨rfl, hb⟩
      have HB : Aside0 (Below w.heap.size w w') := ⟨HW.out.trans (hb.mono HW.out.size)⟩
      clear hb
      go_wp2_with fail
      go_ret
      exact ⟨by rw [HR.out]; rfl, HB.out⟩
    · have g2 : decide (a - x1 + k ≤ x4) = false := decide_eq_false h2
      have HR : Aside0 (r = false) := ⟨by rw [HT.out, g1, g2]; rfl⟩
      clear HT
      go_enter Tryz.func35, Tryz.ntmps35
      go_wp2_with fail
      go_ret
      exact ⟨by rw [HR.out]; rfl, HW.out⟩
  · have g1 : decide (x1 ≤ a) = false := decide_eq_false h1
    have HR : Aside0 (r = false) := ⟨by rw [HT.out, g1]; rfl⟩
    clear HT
    go_enter Tryz.func35, Tryz.ntmps35
    go_wp2_with fail
    go_ret
    exact ⟨by rw [HR.out]; rfl, HW.out⟩

set_option maxHeartbeats 4000000 in
set_option maxRecDepth 100000 in
theorem indexf_calls (w : World) (A : Option Addr) (c : Nat) (ps : List (Int × Int)) (hC : Kd.C kPr w A ps.length ps) (hn : ps.length ≤ 1000000) (v1 v2 v3 : Value) (hit : Int × Int → Bool)
    (hH : ∀ y, y ∈ ps → ∀ W, Below w.heap.size w W → Calls Tryz.prog 35 #[.agg #[.int .i64 y.1, .int .i64 y.2], v1, v2, v3] W (BoolPost W (hit y))) :
    Calls Tryz.prog 71 #[.slice A ps.length c, .func (.func 35) #[] #[v1, v2, v3]] w (IdxPost w (ps.any hit)) := by
  have HC := Aside0.mk hC
  have HH := Aside0.mk hH
  clear hC hH
  go_enter Tryz.func71, Tryz.ntmps71
  go_wp2_with fail
  go_loopg [8] ps.length (fun gg v8 wr => ∃ i : Nat, v8 = .int .i64 i ∧ Aside0 (i + gg = ps.length) ∧ Aside0 (∀ j (h1 : j < i) (hj : j < ps.length), hit ps[j] = false) ∧ Aside0 (Below w.heap.size w wr))
  case atStart => exact ⟨0, rfl, ⟨by omega⟩, ⟨fun j h => absurd h (Nat.not_lt_zero _)⟩, ⟨Below.refl _ _⟩⟩
  case round =>
    obtain ⟨i, rfl, HK, HJ, HB⟩ := hrel
    by_cases hi : i < ps.length
    · have hib : decide (i < ps.length) = true := decide_eq_true hi
      have hib2 : decide ((i : Int) < (ps.length : Int)) = true := by simpa using hi
      obtain ⟨ad, e1, p0, p1⟩ := at_pr (Kd.C_below HC.out HB.out) hi
      subst e1
      rw [getD_at hi] at p0 p1
      have HI : Aside0 (hit ps[i] = true → ps.any hit = true) := ⟨fun h => any_at hi h⟩
      have HN : Aside0 (hit ps[i] = false → ∀ j (h1 : j < i + 1) (hj : j < ps.length), hit ps[j] = false) := ⟨fun h j hj hj2 => by
        by_cases e : j = i
        · subst e; exact h
        · exact HJ.out j (by omega) hj2⟩
      have HSc := Aside0.mk (HH.out _ (List.getElem_mem hi) wr HB.out)
      generalize hit ps[i] = b at HI HN HSc
      generalize ps[i] = y at p0 p1 HSc
      have HHi := Aside0.mk hi
      clear HJ
      go_wp2_with fail
      (with_reducible refine HSc.out.mono ?_)
      rintro e w' ⟨rfl, hb⟩
      have HB2 : Aside0 (Below w.heap.size w w') := ⟨HB.out.trans (hb.mono HB.out.size)⟩
      clear hb HB HSc
      cases b with
      | true =>
        have HR := Aside0.mk (HI.out rfl)
        clear HI HN
        go_wp2_with fail
        go_ret
        exact ⟨⟨_, rfl, by rw [HR.out]; simp⟩, HB2.out⟩
      | false =>
        have HR := Aside0.mk (HN.out rfl)
        clear HI HN
        go_wp2_with fail
        go_roundg (gk - 1)
        case measure => have := HK.out; have := HHi.out; omega
        case rel => exact ⟨i + 1, by go_num, ⟨by have := HK.out; have := HHi.out; omega⟩, HR, HB2⟩
    · have hib : decide (i < ps.length) = false := decide_eq_false hi
      have hib2 : decide ((i : Int) < (ps.length : Int)) = false := by simpa using hi
      have HR : Aside0 (ps.any hit = false) := ⟨any_before fun j hj => HJ.out j (by omega) hj⟩
      clear HJ
      go_wp2_with fail
      go_ret
      exact ⟨⟨-1, rfl, by rw [HR.out]; rfl⟩, HB.out⟩
set_option maxHeartbeats 4000000 in
set_option maxRecDepth 100000 in
theorem containsf_calls (w : World) (A : Option Addr) (c : Nat) (ps : List (Int × Int)) (hC : Kd.C kPr w A ps.length ps) (hn : ps.length ≤ 1000000) (v1 v2 v3 : Value) (hit : Int × Int → Bool)
    (hH : ∀ y, y ∈ ps → ∀ W, Below w.heap.size w W → Calls Tryz.prog 35 #[.agg #[.int .i64 y.1, .int .i64 y.2], v1, v2, v3] W (BoolPost W (hit y))) :
    Calls Tryz.prog 34 #[.slice A ps.length c, .func (.func 35) #[] #[v1, v2, v3]] w (BoolPost w (ps.any hit)) := by
  have HI := Aside0.mk (indexf_calls w A c ps hC hn v1 v2 v3 hit hH)
  clear hC hH
  generalize ps.any hit = b at HI ⊢
  go_enter Tryz.func34, Tryz.ntmps34
  go_wp2_with fail
  (with_reducible refine HI.out.mono ?_)
  rintro e w' ⟨⟨r, rfl, hr⟩, hb⟩
  have HB := Aside0.mk hb
  clear hb HI
  go_wp2_with fail
  go_ret
  exact ⟨rfl, HB.out⟩
end Go.Proofs.YtbakoigejihnaaaGreatDoor.Fp
end
section
set_option linter.unusedSectionVars false
set_option linter.unusedVariables false
namespace Go.Proofs.YtbakoigejihnaaaGreatDoor.Fp
open Kl (Cl IsClone)
theorem hit_any {k w : Nat} (hk : 0 < k) (hw : 0 < w) {a b : List ByteArray} {c : Cl} (hc : IsClone [a, b] (k + w - 1) c) (hne : c.A ≠ c.B) {P Q : List (Int × Int)} (hP : P = (Kl.printsW k w a).map fun p => (p.1, ((p.2 : Nat) : Int)))
    (hQ : Q = (Kl.printsW k w b).map fun p => (p.1, ((p.2 : Nat) : Int))) : P.any (hitB (c.AtA : Nat) (c.AtB : Nat) (c.Len : Nat) (k : Nat) Q) = true := by
  obtain ⟨h, o, h1, h2, h3⟩ := Kl.clone_print Kl.hashL hk hw hc
  have hB : c.B < 2 := hc.bT
  have hA : c.A = 0 := by rcases hc.ord with g | g <;> omega
  have hB1 : c.B = 1 := by rcases hc.ord with g | g <;> omega
  rw [hA] at h1
  rw [hB1] at h2
  change (h, c.AtA + o) ∈ Kl.printsW k w a at h1
  change (h, c.AtB + o) ∈ Kl.printsW k w b at h2
  rw [List.any_eq_true]
  refine ⟨(h, ((c.AtA + o : Nat) : Int)), by rw [hP]; exact List.mem_map.2 ⟨_, h1, rfl⟩, ?_⟩
  unfold hitB
  rw [decide_eq_true (by simp only; omega), decide_eq_true (by simp only; omega), Bool.true_and, Bool.true_and]
  refine inB_of ?_
  rw [hQ]
  refine List.mem_map.2 ⟨_, h2, ?_⟩
  simp only [Prod.mk.injEq, true_and]
  omega
end Go.Proofs.YtbakoigejihnaaaGreatDoor.Fp
end
section
set_option linter.unusedSectionVars false
set_option linter.unusedVariables false
namespace Go.Proofs.YtbakoigejihnaaaGreatDoor.Ps
open Kl (Cl IsClone)
open Ref (txt)
open Wp (Tx prS)
theorem near_pos {k w : Nat} (hk : 0 < k) (hw : 0 < w) {a b : Tx} {c : Cl} (hc : IsClone [txt a.f1, txt b.f1] (k + w - 1) c) (hne : c.A ≠ c.B) :
    0 < cnt (sortP (postsT k w 0 a)) (wantedB (prS k w (txt b.f1))) (sortP (postsT k w 0 a)).length := by
  obtain ⟨h, o, h1, h2, h3⟩ := Kl.clone_print Kl.hashL hk hw hc
  have hB : c.B < 2 := hc.bT
  have hA : c.A = 0 := by rcases hc.ord with g | g <;> omega
  have hB1 : c.B = 1 := by rcases hc.ord with g | g <;> omega
  rw [hA] at h1
  rw [hB1] at h2
  change (h, c.AtA + o) ∈ Kl.printsW k w (txt a.f1) at h1
  change (h, c.AtB + o) ∈ Kl.printsW k w (txt b.f1) at h2
  rw [cnt_pos]
  have hm : (⟨h, ((0 : Nat) : Int), ((c.AtA + o : Nat) : Int)⟩ : SP) ∈ sortP (postsT k w 0 a) := by
    rw [(sortP_perm _).mem_iff]
    unfold postsT prS
    rw [List.map_map]
    exact List.mem_map.2 ⟨_, h1, rfl⟩
  obtain ⟨j, hj, e⟩ := List.mem_iff_getElem.1 hm
  refine ⟨j, hj, ?_⟩
  have he : hashAt (sortP (postsT k w 0 a)) j = h := by
    unfold hashAt
    rw [List.getD_eq_getElem?_getD, List.getElem?_eq_getElem hj, e]; rfl
  rw [he]
  unfold wantedB
  rw [List.any_eq_true]
  refine ⟨(h, ((c.AtB + o : Nat) : Int)), ?_, by simp⟩
  unfold prS
  exact List.mem_map.2 ⟨_, h2, rfl⟩
end Go.Proofs.YtbakoigejihnaaaGreatDoor.Ps
end
section
set_option linter.unusedSectionVars false
set_option linter.unusedSimpArgs false
set_option linter.unusedVariables false
namespace Go.Proofs.YtbakoigejihnaaaGreatDoor.Wp
open Go.RowKit Go.Proofs.YtbakoigejihnaaaGreatDoorW.PrintWords Go.Proofs.YtbakoigejihnaaaGreatDoorW.PrintLast Go.Proofs.YtbakoigejihnaaaGreatDoorW.PrintMore
open Ref (Lx txt txt_length)
open Kl (Cl)

abbrev lineA : ByteArray := ⟨#[120, 32, 61, 32, 121, 32, 43, 32, 49]⟩
abbrev lineB : ByteArray := ⟨#[122, 32, 61, 32, 121, 32, 43, 32, 50]⟩
def exA : Tx := ⟨⟨#[97]⟩, [⟨Ae.w0, 0⟩, ⟨Ae.w1, 0⟩, ⟨Ae.w2, 0⟩, ⟨Ae.w3, 0⟩, ⟨Ae.w4, 0⟩]⟩
def exB : Tx := ⟨⟨#[98]⟩, [⟨Ae.w5, 0⟩, ⟨Ae.w1, 0⟩, ⟨Ae.w2, 0⟩, ⟨Ae.w3, 0⟩, ⟨Ae.w6, 0⟩]⟩
theorem pathA : pathOk ⟨#[97]⟩ = true := by decide +kernel
theorem pathB : pathOk ⟨#[98]⟩ = true := by decide +kernel
theorem words_A : wordsOf false false lineA = exA.f1 := by kernel_rfl
theorem words_B : wordsOf false false lineB = exB.f1 := by kernel_rfl
theorem two_texts {w : World} {b : Nat} {ta tb : Tx} {A1 A2 : Option Addr} {c1 c2 : Nat} {e : TypeId} {fz : Nat × Nat}
    (h : w.heap[b]? = some (.cells #[.string ta.f0, .slice A1 ta.f1.length c1, .string tb.f0, .slice A2 tb.f1.length c2] e fz)) (hc1 : ta.f1.length ≤ c1) (hC1 : Kd.C kLx w A1 ta.f1.length ta.f1) (hc2 : tb.f1.length ≤ c2) (hC2 : Kd.C kLx w A2 tb.f1.length tb.f1) :
    Kd.C kTx w (some ⟨b, 0, none⟩) 2 [ta, tb] := by
  refine ⟨rfl, by decide, fun _ => ⟨_, rfl, fun j p hj => ?_⟩⟩
  match j, hj with
  | 0, hj =>
    obtain rfl : ta = p := by simpa using hj
    refine ⟨_, rfl, Ref.k25_mk w ta hc1 hC1, fun i u hu => ?_⟩
    match i, hu with
    | 0, hu => obtain rfl : Value.string ta.f0 = u := by simpa using hu
               exact World.news_of_block h 0 _ rfl
    | 1, hu => obtain rfl : Value.slice A1 ta.f1.length c1 = u := by simpa using hu
               exact World.news_of_block h 1 _ rfl
    | i + 2, hu => simp at hu
  | 1, hj =>
    obtain rfl : tb = p := by simpa using hj
    refine ⟨_, rfl, Ref.k25_mk w tb hc2 hC2, fun i u hu => ?_⟩
    match i, hu with
    | 0, hu => obtain rfl : Value.string tb.f0 = u := by simpa using hu
               exact World.news_of_block h 2 _ rfl
    | 1, hu => obtain rfl : Value.slice A2 tb.f1.length c2 = u := by simpa using hu
               exact World.news_of_block h 3 _ rfl
    | i + 2, hu => simp at hu
  | j + 2, hj => simp at hj

theorem ex_right : rightT [exA, exB] = true := by decide +kernel
theorem ex_small : ∀ t, t ∈ [exA, exB] → TxSmall t := by
  intro t ht
  have H : ∀ t, t ∈ [exA, exB] → t.f0.size ≤ 1000000 ∧ t.f1.length ≤ 1000000 ∧ ∀ x, x ∈ t.f1 → x.f0.size ≤ 1000000 := by
    intro t ht
    rcases List.mem_cons.1 ht with rfl | ht
    · exact ⟨by decide, by decide, by decide⟩
    · rw [List.mem_singleton] at ht
      subst ht
      exact ⟨by decide, by decide, by decide⟩
  exact H t ht
theorem findEx_calls (A : Option Addr) (c : Nat) (w : World) (hM : MaxAt w) (hC : Kd.C kTx w A 2 [exA, exB]) :
    Calls Tryz.prog 6 #[.slice A 2 c, .int .i64 2, .int .i64 2] w fun e w' => Below w.heap.size w w' ∧ ∃ A1 c1, e = .returned (.tuple #[.slice A1 1 c1, .int .i64 0]) ∧ 1 ≤ c1 ∧ Kd.C Ref.k37 w' A1 1 [⟨0, 1, 1, 1, 3⟩] := by
  have h := find_calls [exA, exB] A c w hM hC ex_small (by decide) 2 2 (by decide) (by decide) (by decide) (by decide)
  simp only [ex_right, if_true] at h
  refine h.mono fun e w' ⟨hb, L, hL, hc⟩ => ⟨hb, ?_⟩
  obtain rfl := Ae.ex_only hL
  rcases hc with ⟨_, A1, c1, he, hc1, hC1⟩ | ⟨hc, _⟩
  · exact ⟨A1, c1, he, hc1, hC1⟩
  · exact absurd hc (by decide)
theorem one_cl {w : World} {b : Nat} {e : TypeId} {fz : Nat × Nat} {x0 x1 x2 x3 x4 : Int} (h : w.heap[b]? = some (.cells #[.int .i64 x0, .int .i64 x1, .int .i64 x2, .int .i64 x3, .int .i64 x4] e fz)) :
    Kd.C kCl w (some ⟨b, 0, none⟩) 1 [⟨x0, x1, x2, x3, x4⟩] := by
  refine ⟨rfl, by decide, fun _ => ⟨_, rfl, fun j p hj => ?_⟩⟩
  match j, hj with
  | 0, hj =>
    obtain rfl : (⟨x0, x1, x2, x3, x4⟩ : SCl) = p := by simpa using hj
    refine ⟨_, rfl, Ref.k37_mk w _, fun i u hu => ?_⟩
    match i, hu with
    | 0, hu => obtain rfl : Value.int .i64 x0 = u := by simpa using hu
               exact World.news_of_block h 0 _ rfl
    | 1, hu => obtain rfl : Value.int .i64 x1 = u := by simpa using hu
               exact World.news_of_block h 1 _ rfl
    | 2, hu => obtain rfl : Value.int .i64 x2 = u := by simpa using hu
               exact World.news_of_block h 2 _ rfl
    | 3, hu => obtain rfl : Value.int .i64 x3 = u := by simpa using hu
               exact World.news_of_block h 3 _ rfl
    | 4, hu => obtain rfl : Value.int .i64 x4 = u := by simpa using hu
               exact World.news_of_block h 4 _ rfl
    | i + 5, hu => simp at hu
  | j + 1, hj => simp at hj
theorem equalEx_calls (A1 A2 : Option Addr) (c1 c2 : Nat) (w : World) (h1 : Kd.C kCl w A1 1 [⟨0, 1, 1, 1, 3⟩]) (h2 : Kd.C kCl w A2 1 [⟨0, 1, 1, 1, 3⟩]) :
    Calls Tryz.prog 13 #[.slice A1 1 c1, .slice A2 1 c2] w fun e w' => e = .returned (.bool true) ∧ Below w.heap.size w w' :=
  (equal_calls w A1 A2 c1 c2 [⟨0, 1, 1, 1, 3⟩] [⟨0, 1, 1, 1, 3⟩] h1 h2 (by decide) (by decide)).mono fun e w' ⟨he, m, hw⟩ => ⟨he, by rw [hw]; exact ⟨rfl, rfl, rfl, Nat.le_refl _, fun _ _ => rfl⟩⟩

set_option maxHeartbeats 8000000 in
set_option maxRecDepth 100000 in
theorem cawake_calls (w : World) (hL : LibAt w) : Calls Tryz.prog 4 #[] w fun e w' => e = .returned (.bool true) ∧ Below w.heap.size w w' := by
  have HL := Aside0.mk hL
  have HWa := Aside0.mk (fun (W : World) (hL : LibAt W) => words_calls ⟨#[97]⟩ lineA false false pathA (by decide) (by decide) W hL)
  have HWb := Aside0.mk (fun (W : World) (hL : LibAt W) => words_calls ⟨#[98]⟩ lineB false false pathB (by decide) (by decide) W hL)
  rw [words_A] at HWa
  rw [words_B] at HWb
  clear hL
  go_enter Tryz.func4, Tryz.ntmps4
  go_wp2_with fail
  (with_reducible refine (HWa.out _ HL.out).mono ?_)
  rintro e w1 ⟨A1, c1, rfl, hc1, hC1, hb1⟩
  have HC1 := Aside0.mk (And.intro hc1 hC1)
  have HB1 := Aside0.mk hb1
  clear hc1 hC1 hb1 HWa
  generalize hlA : exA.f1.length = nA at HC1 ⊢
  go_wp2_with fail
  obtain ⟨W2, hW2⟩ : ∃ W2, W2 = w1.alloc (.cells #[.string ⟨#[97]⟩, .slice A1 nA c1] 25) := ⟨_, rfl⟩
  rw [← hW2]
  have hn2 := heap_alloc_new w1 (.cells #[.string ⟨#[97]⟩, .slice A1 nA c1] 25)
  rw [← hW2] at hn2
  have hb2 : Below w1.heap.size w1 W2 := by rw [hW2]; exact (Below.refl _ _).alloc (Nat.le_refl _) _
  have HB2 : Aside0 (Below w.heap.size w W2) := ⟨HB1.out.trans (hb2.mono HB1.out.size)⟩
  have HN2 := Aside0.mk hn2
  have HC2 := Aside0.mk (And.intro HC1.out.1 (Kd.C_below HC1.out.2 hb2))
  have HlA := Aside0.mk hlA
  clear hW2 hn2 hb2 HC1 HB1 hlA
  generalize w1.heap.size = ba at HN2 ⊢
  clear w1
  (with_reducible refine (HWb.out _ (HL.out.of HB2.out)).mono ?_)
  rintro e w3 ⟨A3, c3, rfl, hc3, hC3, hb3⟩
  generalize hlB : exB.f1.length = nB at hc3 hC3 ⊢
  have HlB := Aside0.mk hlB
  clear hlB
  have HB3 : Aside0 (Below w.heap.size w w3) := ⟨HB2.out.trans (hb3.mono HB2.out.size)⟩
  have hna := blk_below HN2.out hb3
  have xa0 : ∀ o : Obj, (w3.alloc o).cell? ⟨ba, 0, none⟩ = some (.string ⟨#[97]⟩) := fun o => blk_cell (blk_alloc hna o) 0
  have xa1 : ∀ o : Obj, (w3.alloc o).cell? ⟨ba, 1, none⟩ = some (.slice A1 nA c1) := fun o => blk_cell (blk_alloc hna o) 1
  have HC3 := Aside0.mk (And.intro hc3 (And.intro hC3 (Kd.C_below HC2.out.2 hb3)))
  have Hc2 := Aside0.mk HC2.out.1
  clear hc3 hC3 hb3 hna HWb HC2 HN2 HB2
  go_wp2_with fail
  clear xa0 xa1
  obtain ⟨W4, hW4⟩ : ∃ W4, W4 = w3.alloc (.cells #[.string ⟨#[98]⟩, .slice A3 nB c3] 25) := ⟨_, rfl⟩
  rw [← hW4]
  have hb4 : Below w3.heap.size w3 W4 := by rw [hW4]; exact (Below.refl _ _).alloc (Nat.le_refl _) _
  have hs4 : W4.heap.size = w3.heap.size + 1 := by rw [hW4]; simp
  rw [← hs4]
  obtain ⟨W5, hW5⟩ : ∃ W5, W5 = W4.alloc (.cells #[.string ⟨#[97]⟩, .slice A1 nA c1, .string ⟨#[98]⟩, .slice A3 nB c3] 25) := ⟨_, rfl⟩
  rw [← hW5]
  have hn5 := heap_alloc_new W4 (.cells #[.string ⟨#[97]⟩, .slice A1 nA c1, .string ⟨#[98]⟩, .slice A3 nB c3] 25)
  rw [← hW5] at hn5
  have hb5 : Below w3.heap.size w3 W5 := by rw [hW5]; exact hb4.alloc hb4.size _
  have HB5 : Aside0 (Below w.heap.size w W5) := ⟨HB3.out.trans (hb5.mono HB3.out.size)⟩
  have hCT : Kd.C kTx W5 (some ⟨W4.heap.size, 0, none⟩) 2 [exA, exB] := by
    have h1 := HC3.out.1
    have h2 := Kd.C_below HC3.out.2.1 hb5
    have h3 := Hc2.out
    have h4 := Kd.C_below HC3.out.2.2 hb5
    rw [← HlB.out] at h1 h2 hn5
    rw [← HlA.out] at h3 h4 hn5
    exact two_texts (ta := exA) (tb := exB) hn5 h3 h4 h1 h2
  have HCT := Aside0.mk hCT
  clear hW4 hW5 hb4 hs4 hn5 hb5 hCT HC3 Hc2 HlA HlB HB3
  generalize W4.heap.size = bt at HCT ⊢
  clear W4
  generalize w3.heap.size = bb
  clear w3
  (with_reducible refine (findEx_calls _ _ _ (HL.out.max.of HB5.out) HCT.out).mono ?_)
  rintro e w6 ⟨hb6, A6, c6, rfl, hc6, hC6⟩
  have HB6 : Aside0 (Below w.heap.size w w6) := ⟨HB5.out.trans (hb6.mono HB5.out.size)⟩
  have HC6 := Aside0.mk hC6
  clear hb6 hc6 hC6 HCT HB5
  go_wp2_with fail
  have hb7 : Below w6.heap.size w6 (w6.alloc (.cells #[.int .i64 0, .int .i64 1, .int .i64 1, .int .i64 1, .int .i64 3] 37)) := (Below.refl _ _).alloc (Nat.le_refl _) _
  (with_reducible refine (equalEx_calls _ _ _ _ _ (Kd.C_below HC6.out hb7) (one_cl (heap_alloc_new _ _))).mono ?_)
  rintro e w8 ⟨rfl, hb8⟩
  have HB8 : Aside0 (Below w.heap.size w w8) := ⟨HB6.out.trans ((hb7.trans (hb8.mono hb7.size)).mono HB6.out.size)⟩
  clear hb7 hb8
  go_wp2_with fail
  go_ret
  exact ⟨rfl, HB8.out⟩
end Go.Proofs.YtbakoigejihnaaaGreatDoor.Wp
end
section
set_option linter.unusedSectionVars false
set_option linter.unusedSimpArgs false
set_option linter.unusedVariables false
namespace Go.Proofs.YtbakoigejihnaaaGreatDoor.Ps
open Go.RowKit Go.MapG Go.Proofs.YtbakoigejihnaaaGreatDoorW.PrintWords Go.Proofs.YtbakoigejihnaaaGreatDoorW.PrintLast Go.Proofs.YtbakoigejihnaaaGreatDoorW.PrintMore
open Ref (Lx txt txt_length)
open Wp (Tx TxSmall validT kTx kLx kPr TPr prS Yes MaxAt at_tx at_pr prints_calls PrPost clS rd_cl)
open Kl (Cl IsClone)
open Fp (hitB hit_any hit_calls containsf_calls BoolPost)

theorem near_eq (A1 A2 : Option Addr) (c1 c2 : Nat) (w : World) (h1 : Kd.C (Kd.int .i64) w A1 1 [0]) (hc1 : 1 ≤ c1) (h2 : Kd.C (Kd.int .i64) w A2 1 [0]) (hc2 : 1 ≤ c2) :
    Calls Tryz.prog 33 #[.slice A1 1 c1, .slice A2 1 c2] w fun e w' => e = .returned (.bool true) ∧ Drawn0 w w' :=
  Ref.slices_Equal_int_int.calls 5 A1 c1 [0] A2 c2 [0] true w h1 hc1 h2 hc2 (by
    have e : wrap64 1 = 1 := by rw [IntWalk.wrap64_in _ (by omega)]
    simp [Ref.slices_Equal_int_int.f, Ref.slices_Equal_int_int.l0, e])

theorem prS_len {k w : Nat} {l : List Lx} {n : Nat} (hk : 1 ≤ k) (hw : 1 ≤ w) (h : l.length ≤ n) : (prS k w (txt l)).length ≤ n := by
  unfold prS
  have := Kl.prints_length Kl.hashL (k := k) (w := w) hk hw (txt l)
  rw [txt_length] at this
  rw [List.length_map]
  exact Nat.le_trans this h
theorem prS_bound {k w : Nat} {l : List Lx} {n : Nat} (hk : 1 ≤ k) (hw : 1 ≤ w) (h : l.length ≤ n) {y : Int × Int} (hy : y ∈ prS k w (txt l)) : 0 ≤ y.2 ∧ y.2 ≤ (n : Int) := by
  unfold prS at hy
  obtain ⟨p, hp, rfl⟩ := List.mem_map.1 hy
  have := Kl.prints_lt hk hw hp
  rw [txt_length] at this
  simp only
  omega
theorem clone_bounds {a b : List ByteArray} {least : Nat} {c : Cl} (hc : IsClone [a, b] least c) (hne : c.A ≠ c.B) : c.AtA + c.Len ≤ a.length ∧ c.AtB + c.Len ≤ b.length := by
  have hB : c.B < 2 := hc.bT
  have hA : c.A = 0 := by rcases hc.ord with g | g <;> omega
  have hB1 : c.B = 1 := by rcases hc.ord with g | g <;> omega
  have hp := hc.pos
  have hs := hc.same (c.Len - 1) (by omega)
  rw [hA, hB1] at hs
  obtain ⟨g1, g2, _⟩ := hs
  change c.AtA + (c.Len - 1) < a.length at g1
  change c.AtB + (c.Len - 1) < b.length at g2
  omega
theorem one_int {w : World} {b : Nat} {e : TypeId} {fz : Nat × Nat} {x : Int} (h : w.heap[b]? = some (.cells #[.int .i64 x] e fz)) : Kd.C (Kd.int .i64) w (some ⟨b, 0, none⟩) 1 [x] := by
  refine ⟨rfl, by decide, fun _ => ⟨_, rfl, fun j p hj => ?_⟩⟩
  have hj0 : j = 0 := by
    rcases j with _ | j
    · rfl
    · simp at hj
  subst hj0
  have hp : p = x := by simpa using hj.symm
  subst hp
  refine ⟨[.int .i64 p], rfl, rfl, fun i u hu => ?_⟩
  match i, hu with
  | 0, hu => obtain rfl : Value.int .i64 p = u := by simpa using hu
             exact World.news_of_block h 0 _ rfl
  | i + 1, hu => simp at hu

set_option maxHeartbeats 8000000 in
set_option maxRecDepth 100000 in
theorem fingers_calls (a b : Tx) (hSa : TxSmall a) (hva : validT a = true) (hSb : TxSmall b) (hvb : validT b = true) (A1 A2 AL : Option Addr) (c1 c2 cL : Nat) (w : World) (hM : MaxAt w)
    (hCa : Kd.C kLx w A1 a.f1.length a.f1) (hc1 : a.f1.length ≤ c1) (hCb : Kd.C kLx w A2 b.f1.length b.f1) (hc2 : b.f1.length ≤ c2) (hla : a.f1.length ≤ 10000) (hlb : b.f1.length ≤ 10000) (L : List Cl) (hL : L.length ≤ 1000000)
    (hCL : Kd.C Ref.k37 w AL L.length (L.map clS)) (k wi : Nat) (hk0 : 1 ≤ k) (hk1 : k ≤ 1024) (hw0 : 1 ≤ wi) (hw1 : wi ≤ 1024) (hcl : ∀ c, c ∈ L → IsClone [txt a.f1, txt b.f1] (k + wi - 1) c ∧ c.A ≠ c.B) :
    Calls Tryz.prog 14 #[.agg #[.string a.f0, .slice A1 a.f1.length c1], .agg #[.string b.f0, .slice A2 b.f1.length c2], .slice AL L.length cL, .int .i64 (k : Nat), .int .i64 (wi : Nat)] w (BoolPost w true) := by
  have HM := Aside0.mk hM
  have HCa := Aside0.mk hCa
  have HCb := Aside0.mk hCb
  have HCL := Aside0.mk hCL
  have hpa : (prS k wi (txt a.f1)).length ≤ 10000 := prS_len hk0 hw0 hla
  have hpb : (prS k wi (txt b.f1)).length ≤ 10000 := prS_len hk0 hw0 hlb
  have HPa := Aside0.mk (fun (W : World) (hM : MaxAt W) (hC : Kd.C kLx W A1 a.f1.length a.f1) => prints_calls a hSa hva A1 c1 W hM hC hc1 k wi hk0 hk1 hw0 hw1)
  have HPb := Aside0.mk (fun (W : World) (hM : MaxAt W) (hC : Kd.C kLx W A2 b.f1.length b.f1) => prints_calls b hSb hvb A2 c2 W hM hC hc2 k wi hk0 hk1 hw0 hw1)
  have HNew := Aside0.mk (fun (W : World) => new_calls k wi hk0 hk1 hw0 hw1 W)
  have HAdd := Aside0.mk (fun (W : World) (hM : MaxAt W) (hC : Kd.C kLx W A1 a.f1.length a.f1) => add_calls a A1 c1 W hM hC hc1 hSa hva k wi hk0 hk1 hw0 hw1 (by omega) _ _ rfl rfl)
  have HNear := Aside0.mk (fun (Aa Ab Ac : Option Addr) (ca cb cc N : Nat) (W : World) (hM : MaxAt W) (hCo : CoMem N W Ab Ac a (sortP (postsT k wi 0 a)) Aa ca) (hC : Kd.C kLx W A2 b.f1.length b.f1) =>
    near_calls a b A2 Aa Ab Ac c2 ca cb cc N _ W hM hCo hSa hva hC hc2 hSb hvb k wi hk0 hk1 hw0 hw1 rfl (by omega) (by omega))
  have HHit := Aside0.mk (fun (c : Cl) (hc : c ∈ L) => hit_any (P := prS k wi (txt a.f1)) (Q := prS k wi (txt b.f1)) hk0 hw0 (hcl c hc).1 (hcl c hc).2 rfl rfl)
  have HPos : Aside0 (L ≠ [] → 0 < cnt (sortP (postsT k wi 0 a)) (wantedB (prS k wi (txt b.f1))) (sortP (postsT k wi 0 a)).length) := ⟨fun h => by
    obtain ⟨c, hc⟩ := List.exists_mem_of_ne_nil L h
    exact near_pos hk0 hw0 (hcl c hc).1 (hcl c hc).2⟩
  have HBd : Aside0 (∀ c, c ∈ L → c.AtA ≤ 10000 ∧ c.AtB ≤ 10000 ∧ c.Len ≤ 10000) := ⟨fun c hc => by
    have h := clone_bounds (hcl c hc).1 (hcl c hc).2
    rw [txt_length, txt_length] at h
    omega⟩
  have HPy : Aside0 (∀ y, y ∈ prS k wi (txt a.f1) → 0 ≤ y.2 ∧ y.2 ≤ 10000) := ⟨fun y hy => prS_bound hk0 hw0 hla hy⟩
  have Hpa := Aside0.mk hpa
  have Hpb := Aside0.mk hpb
  clear hM hCa hCb hCL hSa hSb hva hvb hcl hpa hpb hla hlb
  go_enter Tryz.func14, Tryz.ntmps14
  go_wp2_with fail
  obtain ⟨hn0, hn1, hn2, hb1, _⟩ := Wp.three_alloc w (.cells #[.string a.f0, .slice A1 a.f1.length c1] 25) (.cells #[.string b.f0, .slice A2 b.f1.length c2] 25) (.cells #[.int .i64 (k : Nat)] 3)
  obtain ⟨W1, hW1⟩ : ∃ W1, W1 = (((w.alloc (.cells #[.string a.f0, .slice A1 a.f1.length c1] 25)).alloc (.cells #[.string b.f0, .slice A2 b.f1.length c2] 25)).alloc (.cells #[.int .i64 (k : Nat)] 3)) := ⟨_, rfl⟩
  rw [← hW1] at hn0 hn1 hn2 hb1
  rw [← hW1]
  have HN := Aside0.mk (And.intro hn0 (And.intro hn1 hn2))
  have HB1 := Aside0.mk hb1
  clear hW1 hn0 hn1 hn2 hb1
  generalize w.heap.size + 1 + 1 = b8 at HN ⊢
  generalize w.heap.size + 1 = b6 at HN ⊢
  have HX : Aside0 (∀ W, Below W1.heap.size W1 W → W.cell? ⟨w.heap.size, 0, none⟩ = some (.string a.f0) ∧ W.cell? ⟨w.heap.size, 1, none⟩ = some (.slice A1 a.f1.length c1) ∧ W.cell? ⟨b6, 0, none⟩ = some (.string b.f0) ∧ W.cell? ⟨b6, 1, none⟩ = some (.slice A2 b.f1.length c2) ∧ W.cell? ⟨b8, 0, none⟩ = some (.int .i64 (k : Nat)) ∧ W.heap[b8]? = some (.cells #[.int .i64 (k : Nat)] 3 (0, 0))) :=
    ⟨fun W h => ⟨blk_cell (blk_below HN.out.1 h) 0, blk_cell (blk_below HN.out.1 h) 1, blk_cell (blk_below HN.out.2.1 h) 0, blk_cell (blk_below HN.out.2.1 h) 1, blk_cell (blk_below HN.out.2.2 h) 0, blk_below HN.out.2.2 h⟩⟩
  clear HN
  have HW : Aside0 (∀ W, Below W1.heap.size W1 W → Below w.heap.size w W) := ⟨fun W h => HB1.out.trans (h.mono HB1.out.size)⟩
  obtain ⟨bx, hbx⟩ : ∃ bx, bx = w.heap.size := ⟨_, rfl⟩
  rw [← hbx] at HX
  rw [← hbx]
  clear hbx
  (with_reducible refine (HPa.out _ (HM.out.of HB1.out) (Kd.C_below HCa.out HB1.out)).mono ?_)
  rintro e w2 ⟨v2, rfl, hr2, hb2⟩
  obtain ⟨Dp, dp, rfl, hdp, hCp⟩ := Kd.R_reads hr2
  have HCp := Aside0.mk hCp
  have HB2 := Aside0.mk hb2
  obtain ⟨x0, x1, x2, x3, x4, x5⟩ := HX.out _ HB2.out
  clear hr2 hb2 hdp hCp HPa x5
  go_wp2_with fail
  (with_reducible refine (HPb.out _ (HM.out.of (HW.out _ HB2.out)) (Kd.C_below HCb.out (HW.out _ HB2.out))).mono ?_)
  rintro e w3 ⟨v3, rfl, hr3, hb3⟩
  obtain ⟨Dq, dq, rfl, hdq, hCq⟩ := Kd.R_reads hr3
  have HB3 : Aside0 (Below W1.heap.size W1 w3) := ⟨HB2.out.trans (hb3.mono HB2.out.size)⟩
  have xk : ∀ o : Obj, (w3.alloc o).cell? ⟨b8, 0, none⟩ = some (.int .i64 (k : Nat)) := fun o => blk_cell (blk_alloc ((HX.out _ HB3.out).2.2.2.2.2) o) 0
  clear x0 x1 x2 x3 x4 HPb
  go_wp2_with fail
  clear xk
  obtain ⟨W4, hW4⟩ : ∃ W4, W4 = w3.alloc (.cells #[.slice Dq (prS k wi (txt b.f1)).length dq] 74) := ⟨_, rfl⟩
  rw [← hW4]
  have hn4 := heap_alloc_new w3 (.cells #[.slice Dq (prS k wi (txt b.f1)).length dq] 74)
  rw [← hW4] at hn4
  have hb4 : Below w3.heap.size w3 W4 := by rw [hW4]; exact (Below.refl _ _).alloc (Nat.le_refl _) _
  have HB4 : Aside0 (Below W1.heap.size W1 W4) := ⟨HB3.out.trans (hb4.mono HB3.out.size)⟩
  have HPQ : Aside0 (∀ W, Below W4.heap.size W4 W → Kd.C kPr W Dp (prS k wi (txt a.f1)).length (prS k wi (txt a.f1)) ∧ Kd.C kPr W Dq (prS k wi (txt b.f1)).length (prS k wi (txt b.f1)) ∧ W.heap[w3.heap.size]? = some (.cells #[.slice Dq (prS k wi (txt b.f1)).length dq] 74 (0, 0))) :=
    ⟨fun W h => ⟨Kd.C_below (Kd.C_below (Kd.C_below HCp.out hb3) hb4) h, Kd.C_below (Kd.C_below hCq hb4) h, blk_below hn4 h⟩⟩
  clear hW4 hn4 hr3 hb3 hb4 hdq hCq HCp HB2 HB3
  generalize w3.heap.size = bq at HPQ ⊢
  clear w2 w3
  (with_reducible refine (HNew.out _).mono ?_)
  rintro e w5 ⟨rfl, hb5⟩
  have HB5 : Aside0 (Below W4.heap.size W4 w5) := ⟨hb5⟩
  have HB5' : Aside0 (Below W1.heap.size W1 w5) := ⟨HB4.out.trans (hb5.mono HB4.out.size)⟩
  have xa : ∀ o : Obj, (w5.alloc o).cell? ⟨bx, 0, none⟩ = some (.string a.f0) ∧ (w5.alloc o).cell? ⟨bx, 1, none⟩ = some (.slice A1 a.f1.length c1) := fun o => by
    have h := HX.out _ (HB5'.out.trans (((Below.refl w5.heap.size w5).alloc (Nat.le_refl _) o).mono HB5'.out.size))
    exact ⟨h.1, h.2.1⟩
  have xa0 := fun o => (xa o).1
  have xa1 := fun o => (xa o).2
  clear hb5 HNew xa
  go_wp2_with fail
  clear xa0 xa1
  obtain ⟨W6, hW6⟩ : ∃ W6, W6 = w5.alloc (.cells #[.int .i64 (k : Nat), .int .i64 (wi : Nat), .slice none 0 0, .slice none 0 0] TCo) := ⟨_, rfl⟩
  rw [← hW6]
  have hn6 := heap_alloc_new w5 (.cells #[.int .i64 (k : Nat), .int .i64 (wi : Nat), .slice none 0 0, .slice none 0 0] TCo)
  rw [← hW6] at hn6
  have hb6 : Below w5.heap.size w5 W6 := by rw [hW6]; exact (Below.refl _ _).alloc (Nat.le_refl _) _
  have HB6 : Aside0 (Below W4.heap.size W4 W6) := ⟨HB5.out.trans (hb6.mono HB5.out.size)⟩
  have HB6' : Aside0 (Below W1.heap.size W1 W6) := ⟨HB4.out.trans (HB6.out.mono HB4.out.size)⟩
  have HN6 : Aside0 (W6.heap[w5.heap.size]? = some (.cells #[.int .i64 (k : Nat), .int .i64 (wi : Nat), .slice none 0 0, .slice none 0 0] TCo (0, 0)) ∧ W4.heap.size ≤ w5.heap.size) := ⟨hn6, HB5.out.size⟩
  clear hW6 hn6 hb6 HB5 HB5'
  generalize w5.heap.size = bc at HN6 ⊢
  clear w5
  (with_reducible refine (HAdd.out _ (HM.out.of (HW.out _ HB6'.out)) (Kd.C_below HCa.out (HW.out _ HB6'.out))).mono ?_)
  rintro e w7 ⟨Ab, cb, Ac, cc, rfl, hcb, hcc, ⟨Aa, ca, hco⟩, hb7⟩
  have HB7 : Aside0 (Below W4.heap.size W4 w7) := ⟨HB6.out.trans (hb7.mono HB6.out.size)⟩
  have HB7' : Aside0 (Below W1.heap.size W1 w7) := ⟨HB4.out.trans (HB7.out.mono HB4.out.size)⟩
  have hc7 := blk_below HN6.out.1 hb7
  have f0 := blk_frozen hc7 0
  have f1 := blk_frozen hc7 1
  have f2 := blk_frozen hc7 2
  have f3 := blk_frozen hc7 3
  have d0 := blk_cell hc7 0
  have d1 := blk_cell hc7 1
  have d2 := blk_cell hc7 2
  have d3 := blk_cell hc7 3
  have hf := blk_set (blk_set (blk_set (blk_set hc7 0 (.int .i64 (k : Nat))) 1 (.int .i64 (wi : Nat))) 2 (.slice Ab 1 cb)) 3 (.slice Ac (sortP (postsT k wi 0 a)).length cc)
  have r0 := blk_cell hf 0
  have r1 := blk_cell hf 1
  have r2 := blk_cell hf 2
  have r3 := blk_cell hf 3
  have hlt : bc < W6.heap.size := blk_lt HN6.out.1
  have HCo := Aside0.mk ((((hco.set hlt 0 (.int .i64 (k : Nat))).set hlt 1 (.int .i64 (wi : Nat))).set hlt 2 (.slice Ab 1 cb)).set hlt 3 (.slice Ac (sortP (postsT k wi 0 a)).length cc))
  have h14 := HB4.out.size
  have h4c := HN6.out.2
  have HB8 : Aside0 (Below W4.heap.size W4 _) := ⟨(((HB7.out.setCell (p := ⟨bc, 0, none⟩) h4c (.int .i64 (k : Nat))).setCell (p := ⟨bc, 1, none⟩) h4c (.int .i64 (wi : Nat))).setCell (p := ⟨bc, 2, none⟩) h4c (.slice Ab 1 cb)).setCell (p := ⟨bc, 3, none⟩) h4c (.slice Ac (sortP (postsT k wi 0 a)).length cc)⟩
  obtain ⟨x0, x1, x2, x3, x4, x5⟩ := HX.out _ (HB4.out.trans (HB8.out.mono h14))
  clear x0 x1 x4 x5 hf hc7 hco hb7 hcb hcc HAdd h14 h4c hlt HB7 HB7'
  go_wp2_with fail
  clear x2 x3 d0 d1 d2 d3 f0 f1 f2 f3 r0 r1 r2 r3
  generalize ((((w7.setCell ⟨bc, 0, none⟩ (.int .i64 (k : Nat))).setCell ⟨bc, 1, none⟩ (.int .i64 (wi : Nat))).setCell ⟨bc, 2, none⟩ (.slice Ab 1 cb)).setCell ⟨bc, 3, none⟩ (.slice Ac (sortP (postsT k wi 0 a)).length cc)) = W8 at HCo HB8 ⊢
  have HB8w : Aside0 (Below w.heap.size w W8) := ⟨HW.out _ (HB4.out.trans (HB8.out.mono HB4.out.size))⟩
  (with_reducible refine (HNear.out _ _ _ _ _ _ _ _ (HM.out.of HB8w.out) HCo.out (Kd.C_below HCb.out HB8w.out)).mono ?_)
  rintro e w9 ⟨An, cn, rfl, hcn, hCn, hb9⟩
  have HB9 : Aside0 (Below W4.heap.size W4 w9) := ⟨HB8.out.trans (hb9.mono HB8.out.size)⟩
  have HCn := Aside0.mk (And.intro hcn hCn)
  clear hcn hCn hb9 HNear HCo HB8 HB8w HN6 HB6 HB6'
  generalize cnt (sortP (postsT k wi 0 a)) (wantedB (prS k wi (txt b.f1))) (sortP (postsT k wi 0 a)).length = nn at HCn HPos ⊢
  have HF : Aside0 (∀ W, Below W4.heap.size W4 W → Below w.heap.size w W) := ⟨fun W h => HW.out _ (HB4.out.trans (h.mono HB4.out.size))⟩
  clear w7 W6 W8
  by_cases hL0 : 0 < L.length
  · have hLb : decide (0 < L.length) = true := decide_eq_true hL0
    have hLb2 : decide ((0 : Int) < (L.length : Int)) = true := by simpa using hL0
    have HNl : Aside0 (nearL nn = [0]) := ⟨by
      unfold nearL
      rw [if_pos (HPos.out (by intro h; rw [h] at hL0; exact absurd hL0 (by simp)))]⟩
    rw [HNl.out] at HCn
    rw [HNl.out]
    clear hL0
    go_wp2_with fail
    have hn10 := heap_alloc_new w9 (.cells #[.int .i64 0] 3)
    have hb10 : Below w9.heap.size w9 (w9.alloc (.cells #[.int .i64 0] 3)) := (Below.refl _ _).alloc (Nat.le_refl _) _
    have hcn1 : 1 ≤ cn := HCn.out.1
    have hCn1 : Kd.C (Kd.int .i64) (w9.alloc (.cells #[.int .i64 0] 3)) An 1 [0] := Kd.C_below HCn.out.2 hb10
    (with_reducible refine (near_eq An (some ⟨w9.heap.size, 0, none⟩) cn 1 _ hCn1 hcn1 (one_int hn10) (Nat.le_refl _)).mono ?_)
    rintro e w10 ⟨rfl, ⟨q10, hq10⟩⟩
    have HB10 : Aside0 (Below W4.heap.size W4 w10) := ⟨by rw [hq10]; exact pw_below_drewN (HB9.out.trans (hb10.mono HB9.out.size)) _⟩
    clear hn10 hb10 hq10 hcn1 hCn1 HCn HB9 HNl HPos
    generalize w9.heap.size = b9
    clear w9
    go_wp2_with fail
    go_loopg [86] L.length (fun gg v86 wr => ∃ i : Nat, v86 = .int .i64 i ∧ Aside0 (i + gg = L.length) ∧ Aside0 (Below W4.heap.size W4 wr))
    case atStart => exact ⟨0, rfl, ⟨by omega⟩, HB10⟩
    case round =>
      obtain ⟨i, rfl, HK, HB⟩ := hrel
      clear HB10
      by_cases hi : i < L.length
      · have hib : decide (i < L.length) = true := decide_eq_true hi
        have hib2 : decide ((i : Int) < (L.length : Int)) = true := by simpa using hi
        obtain ⟨ad, e1, p0, p1, p2, p3, p4⟩ := Ref.at_T37 (Kd.C_below HCL.out (HF.out _ HB.out)) (i : Int) (by omega) (by omega)
        subst e1
        have hx : Ref.rd_T37 (L.map clS) (i : Int) = clS L[i] := by rw [rd_cl (by simpa using hi), List.getElem_map]
        rw [hx, Int.toNat_natCast] at p0 p1 p2 p3 p4
        have HH1 := Aside0.mk (HHit.out L[i] (List.getElem_mem hi))
        have hbd := HBd.out L[i] (List.getElem_mem hi)
        clear hx
        generalize L[i] = x at p0 p1 p2 p3 p4 HH1 hbd
        obtain ⟨x0, x1, x2, x3, x4⟩ := x
        simp only [clS] at p0 p1 p2 p3 p4
        simp only at HH1 hbd
        have HBd1 := Aside0.mk hbd
        have HHi := Aside0.mk hi
        clear hbd
        have hbd2 : ∀ o : Obj, Below W4.heap.size W4 (wr.alloc o) := fun o => HB.out.alloc HB.out.size o
        have HCt : Aside0 (Calls Tryz.prog 34 #[.slice Dp (prS k wi (txt a.f1)).length dp, .func (.func 35) #[] #[.pointer (some ⟨wr.heap.size, 0, none⟩), .pointer (some ⟨b8, 0, none⟩), .pointer (some ⟨bq, 0, none⟩)]]
            (wr.alloc (.cells #[.int .i64 (x0 : Nat), .int .i64 (x1 : Nat), .int .i64 (x2 : Nat), .int .i64 (x3 : Nat), .int .i64 (x4 : Nat)] 37)) (BoolPost (wr.alloc (.cells #[.int .i64 (x0 : Nat), .int .i64 (x1 : Nat), .int .i64 (x2 : Nat), .int .i64 (x3 : Nat), .int .i64 (x4 : Nat)] 37)) true)) := ⟨by
          have hnx := heap_alloc_new wr (.cells #[.int .i64 (x0 : Nat), .int .i64 (x1 : Nat), .int .i64 (x2 : Nat), .int .i64 (x3 : Nat), .int .i64 (x4 : Nat)] 37)
          have hbw := hbd2 (.cells #[.int .i64 (x0 : Nat), .int .i64 (x1 : Nat), .int .i64 (x2 : Nat), .int .i64 (x3 : Nat), .int .i64 (x4 : Nat)] 37)
          have hla := Hpa.out
          have hlb := Hpb.out
          obtain ⟨d1, d3, d4⟩ := HBd1.out
          have h := containsf_calls (wr.alloc (.cells #[.int .i64 (x0 : Nat), .int .i64 (x1 : Nat), .int .i64 (x2 : Nat), .int .i64 (x3 : Nat), .int .i64 (x4 : Nat)] 37)) Dp dp (prS k wi (txt a.f1)) (HPQ.out _ hbw).1 (by omega)
            (.pointer (some ⟨wr.heap.size, 0, none⟩)) (.pointer (some ⟨b8, 0, none⟩)) (.pointer (some ⟨bq, 0, none⟩)) (hitB (x1 : Nat) (x3 : Nat) (x4 : Nat) (k : Nat) (prS k wi (txt b.f1))) (fun y hy W hW => by
              have hW4 := hbw.trans (hW.mono hbw.size)
              obtain ⟨y0, y1⟩ := HPy.out y hy
              obtain ⟨_, q1, q2⟩ := HPQ.out _ hW4
              exact hit_calls W Dq dq (prS k wi (txt b.f1)) q1 (by omega) wr.heap.size b8 bq x0 x1 x2 x3 x4 k (blk_below hnx hW) (HX.out _ (HB4.out.trans (hW4.mono HB4.out.size))).2.2.2.2.2 q2 y.1 y.2 y0 (by omega) (by omega) (by omega) (by omega) (by omega) (by omega) (by omega))
          rw [HH1.out] at h
          exact h⟩
        clear hbd2 HH1 HBd1
        go_wp2_with fail
        (with_reducible refine HCt.out.mono ?_)
        rintro e w' ⟨rfl, hb⟩
        have HB2 : Aside0 (Below W4.heap.size W4 w') := ⟨(HB.out.alloc HB.out.size _).trans (hb.mono (Nat.le_trans HB.out.size (by simp)))⟩
        clear hb HB HCt
        go_wp2_with fail
        go_roundg (L.length - (i + 1))
        case measure => have := HK.out; have := HHi.out; omega
        case rel => exact ⟨i + 1, by go_num, ⟨by have := HK.out; have := HHi.out; omega⟩, HB2⟩
      · have hib : decide (i < L.length) = false := decide_eq_false hi
        have hib2 : decide ((i : Int) < (L.length : Int)) = false := by simpa using hi
        have HBz := Aside0.mk (HF.out _ HB.out)
        go_wp2_with fail
        go_ret
        exact ⟨rfl, HBz.out⟩
  · have hLb : decide (0 < L.length) = false := decide_eq_false hL0
    have hLb2 : decide ((0 : Int) < (L.length : Int)) = false := by simpa using hL0
    clear hL0
    go_wp2_with fail
    have HBz := Aside0.mk (HF.out _ HB9.out)
    go_loopg [86] 0 (fun gg v86 wr => v86 = .int .i64 0 ∧ wr = w9)
    case atStart => exact ⟨rfl, rfl⟩
    case round =>
      obtain ⟨rfl, rfl⟩ := hrel
      go_wp2_with fail
      go_ret
      exact ⟨rfl, HBz.out⟩
end Go.Proofs.YtbakoigejihnaaaGreatDoor.Ps
end
