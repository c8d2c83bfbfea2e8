/- Plain: the clones of two texts are the maximal equal runs, the longest one, a fingerprint that both texts select; the example's clones. Conditions: none. -/
import Derived.Test.YtbakoigejihnaaaGreatDoorMWalk
import Derived.Test.YtbakoigejihnaaaGreatDoorMKl
section
set_option linter.unusedSectionVars false
set_option linter.unusedVariables false
namespace Go.Proofs.YtbakoigejihnaaaGreatDoor.Bs
open Sam (EndsAt Run countS firstS longS endsS nRuns pick bestS)

theorem longS_le {W P : List ByteArray} : ∀ n, longS W P n ≤ n
  | 0 => Nat.le_refl _
  | n + 1 => by
    simp only [longS]
    split
    · exact Nat.le_refl _
    · have := longS_le (W := W) (P := P) n; omega

/-! the scan -/
def valAt (W L : List ByteArray) (m : Nat) : Nat × Int × Int :=
  let d := (endsS W L).getD m 0
  if d = 0 then (0, 0, 0) else (d, firstS W ((L.take (m + 1)).drop (m + 1 - d)), (m : Int) + 1 - d)

theorem valAt_len (W L : List ByteArray) (m : Nat) : (valAt W L m).1 = (endsS W L).getD m 0 := by
  unfold valAt
  simp only
  split
  · rename_i h; rw [h]
  · rfl

theorem ends_drop (W L : List ByteArray) {i : Nat} (hi : i < L.length) : (endsS W L).drop i = (endsS W L).getD i 0 :: (endsS W L).drop (i + 1) := by
  have hl : i < (endsS W L).length := by simpa [endsS] using hi
  rw [List.drop_eq_getElem_cons hl]
  simp [List.getD, hl]

theorem ends_getD_le (W L : List ByteArray) (i : Nat) : (endsS W L).getD i 0 ≤ i + 1 := by
  unfold endsS
  rw [List.getD_eq_getElem?_getD, List.getElem?_map]
  by_cases hi : i < L.length
  · rw [List.getElem?_range hi]; exact longS_le _
  · rw [List.getElem?_eq_none (by simpa using hi)]; simp

theorem pick_new (W L : List ByteArray) {i : Nat} (hi : i < L.length) (x : Nat × Int × Int) (h : x.1 < (endsS W L).getD i 0 ∨ (x = (0, 0, 0) ∧ (endsS W L).getD i 0 = 0)) :
    pick W L ((endsS W L).drop i) i x = pick W L ((endsS W L).drop (i + 1)) (i + 1) (valAt W L i) := by
  rw [ends_drop W L hi]
  simp only [pick]
  congr 1
  rcases h with h | ⟨h1, h2⟩
  · rw [if_pos h]; unfold valAt; simp only; rw [if_neg (by omega)]
  · rw [h1, h2]; unfold valAt; simp only; rw [h2]; simp
theorem pick_old (W L : List ByteArray) {i : Nat} (hi : i < L.length) (x : Nat × Int × Int) (h : ¬ x.1 < (endsS W L).getD i 0) :
    pick W L ((endsS W L).drop i) i x = pick W L ((endsS W L).drop (i + 1)) (i + 1) x := by
  rw [ends_drop W L hi]
  simp only [pick]
  rw [if_neg h]

theorem longS_spec {W P : List ByteArray} : ∀ n, n ≤ P.length → Run W (P.drop (P.length - longS W P n)) ∧ ∀ j, longS W P n < j → j ≤ n → ¬ Run W (P.drop (P.length - j))
  | 0, _ => ⟨by simp only [longS, Nat.sub_zero, List.drop_length]; exact Sam.run_nil _, fun j h1 h2 => by omega⟩
  | n + 1, hn => by
    simp only [longS]
    by_cases h : Run W (P.drop (P.length - (n + 1)))
    · rw [if_pos h]; exact ⟨h, fun j h1 h2 => by omega⟩
    · rw [if_neg h]
      obtain ⟨h1, h2⟩ := longS_spec (W := W) (P := P) n (by omega)
      refine ⟨h1, fun j g1 g2 => ?_⟩
      by_cases e : j = n + 1
      · subst e; exact h
      · exact h2 j g1 (by omega)

section
variable (W L : List ByteArray)

/-- what stands at a place of the row of ends -/
def endAt (i : Nat) : Nat := (endsS W L).getD i 0
theorem endAt_eq {i : Nat} (hi : i < L.length) : endAt W L i = longS W (L.take (i + 1)) (i + 1) := by
  unfold endAt endsS
  rw [List.getD_eq_getElem?_getD, List.getElem?_map, List.getElem?_range hi]; rfl
theorem endAt_le (i : Nat) : endAt W L i ≤ i + 1 := ends_getD_le W L i
theorem endAt_run {i : Nat} (hi : i < L.length) : Run W ((L.take (i + 1)).drop (i + 1 - endAt W L i)) := by
  have hl : (L.take (i + 1)).length = i + 1 := by simp; omega
  have := (longS_spec (W := W) (P := L.take (i + 1)) (i + 1) (by omega)).1
  rw [hl, ← endAt_eq W L hi] at this; exact this
theorem endAt_max {i : Nat} (hi : i < L.length) {j : Nat} (h1 : endAt W L i < j) (h2 : j ≤ i + 1) : ¬ Run W ((L.take (i + 1)).drop (i + 1 - j)) := by
  have hl : (L.take (i + 1)).length = i + 1 := by simp; omega
  have := (longS_spec (W := W) (P := L.take (i + 1)) (i + 1) (by omega)).2 j (by rw [← endAt_eq W L hi]; exact h1) h2
  rwa [hl] at this
theorem endAt_of {i : Nat} (hi : i < L.length) {r : List ByteArray} (h1 : r <:+ L.take (i + 1)) (h2 : Run W r) : r.length ≤ endAt W L i := by
  have hl : (L.take (i + 1)).length = i + 1 := by simp; omega
  have hr := List.suffix_iff_eq_drop.1 h1
  rw [hl] at hr
  have hle := h1.length_le
  rcases Nat.lt_or_ge (endAt W L i) r.length with g | g
  · rw [hr] at h2
    exact (endAt_max W L hi g (by omega) h2).elim
  · exact g
theorem best_from : ∀ (m i p : Nat), i + m = L.length → p < i → (∀ q, q < i → endAt W L q ≤ endAt W L p) → ∃ p', p' < L.length ∧ pick W L ((endsS W L).drop i) i (valAt W L p) = valAt W L p' ∧ ∀ q, q < L.length → endAt W L q ≤ endAt W L p'
  | 0, i, p, hi, hp, hq => by
    refine ⟨p, by omega, ?_, fun q hql => hq q (by omega)⟩
    rw [List.drop_of_length_le (by simp [endsS]; omega)]; rfl
  | m + 1, i, p, hi, hp, hq => by
    by_cases hg : endAt W L p < endAt W L i
    · rw [pick_new W L (by omega) _ (.inl (by rw [valAt_len]; exact hg))]
      refine best_from m (i + 1) i (by omega) (by omega) (fun q hqi => ?_)
      by_cases e : q = i
      · subst e; exact Nat.le_refl _
      · have := hq q (by omega); omega
    · rw [pick_old W L (by omega) _ (by rw [valAt_len]; exact hg)]
      refine best_from m (i + 1) p (by omega) (by omega) (fun q hqi => ?_)
      by_cases e : q = i
      · subst e; omega
      · exact hq q (by omega)

theorem best_at (hL : 0 < L.length) : ∃ p, p < L.length ∧ bestS W L = valAt W L p ∧ ∀ q, q < L.length → endAt W L q ≤ endAt W L p := by
  have h0 : bestS W L = pick W L ((endsS W L).drop (0 + 1)) (0 + 1) (valAt W L 0) := by
    have := pick_new W L (i := 0) hL (0, 0, 0) (by
      rcases Nat.eq_zero_or_pos ((endsS W L).getD 0 0) with g | g
      · exact .inr ⟨rfl, g⟩
      · exact .inl g)
    rw [← this]; rfl
  rw [h0]
  exact best_from W L (L.length - 1) 1 0 (by omega) (by omega) (fun q hq => by
    obtain rfl : q = 0 := by omega
    exact Nat.le_refl _)

/-- the longest run: its length is the greatest of all that are runs of both -/
structure Best (n : Nat) : Prop where
  len : ∀ r, Run W r → Run L r → r.length ≤ n
  run : ∃ r, Run W r ∧ Run L r ∧ r.length = n

theorem best_best : Best W L (bestS W L).1 := by
  rcases Nat.eq_zero_or_pos L.length with h0 | h0
  · have hL : L = [] := List.eq_nil_of_length_eq_zero h0
    subst hL
    have hb : bestS W [] = (0, 0, 0) := rfl
    rw [hb]
    exact ⟨fun r _ h => by have := h.len; simpa using this, ⟨[], Sam.run_nil _, Sam.run_nil _, rfl⟩⟩
  · obtain ⟨p, hp, hb, hmax⟩ := best_at W L h0
    have hl : (L.take (p + 1)).length = p + 1 := by simp; omega
    have hrun := endAt_run W L hp
    have hle := endAt_le W L p
    have hn : (bestS W L).1 = endAt W L p := by rw [hb]; exact valAt_len W L p
    rw [hn]
    refine ⟨?_, ?_⟩
    · intro r h1 h2
      rcases Nat.eq_zero_or_pos r.length with g | g
      · omega
      · obtain ⟨e, he⟩ := h2
        have h3 := he.len
        have h4 := he.le
        have := endAt_of W L (i := e - 1) (by omega) (by rw [show e - 1 + 1 = e by omega]; exact he.2) h1
        have := hmax (e - 1) (by omega)
        omega
    · refine ⟨_, hrun, ⟨p + 1, Sam.endsAt_cut (by omega)⟩, ?_⟩
      rw [List.length_drop, hl]; omega
end

/-! clones of two texts -/
open Kl (Plc Cl IsClone Clones Same SameAt runAt fromOf toOf)

theorem run_cut {W : List ByteArray} {a n : Nat} (h : a + n ≤ W.length) : Run W ((W.drop a).take n) := by
  refine ⟨a + n, h, ?_⟩
  rw [List.suffix_iff_eq_drop]
  simp only [List.length_take, List.length_drop]
  rw [Nat.min_eq_left (by omega), Nat.min_eq_left (by omega), Nat.add_sub_cancel, List.drop_take, Nat.add_sub_cancel_left]

theorem run_get {W r : List ByteArray} (h : Run W r) : ∃ a, a + r.length ≤ W.length ∧ ∀ t, t < r.length → W[a + t]? = r[t]? := by
  obtain ⟨e, he, hs⟩ := h
  obtain ⟨p, hp⟩ := hs
  have hl : p.length + r.length = e := by
    have := congrArg List.length hp
    simp at this; omega
  refine ⟨p.length, by omega, fun t ht => ?_⟩
  have : (W.take e)[p.length + t]? = r[t]? := by
    rw [← hp, List.getElem?_append_right (by omega), Nat.add_sub_cancel_left]
  rwa [List.getElem?_take, if_pos (by omega)] at this

theorem fwd_ge {a b : List ByteArray} {i j n : Nat} (h : ∀ t, t < n → Same a (i + t) b (j + t)) : n ≤ Kl.fwd a i b j := by
  rcases Nat.lt_or_ge (Kl.fwd a i b j) n with g | g
  · exact (Kl.fwd_stop (h _ g)).elim
  · exact g

/-- the greatest length of the clones between text 0 and text 1 -/
def longest : List Cl → Nat
  | [] => 0
  | c :: L => if c.A = 0 ∧ c.B = 1 then max c.Len (longest L) else longest L
end Go.Proofs.YtbakoigejihnaaaGreatDoor.Bs
end
section
set_option linter.unusedSectionVars false
set_option linter.unusedVariables false
namespace Kl
section
variable {α : Type} [DecidableEq α]
theorem clone_print (gh : List α → Int) {k w : Nat} (hk : 0 < k) (hw : 0 < w) {T : List (List α)} {c : Cl} (hc : IsClone T (k + w - 1) c) :
    ∃ (h : Int) (o : Nat), (h, c.AtA + o) ∈ prints gh k w (T.getD c.A []) ∧ (h, c.AtB + o) ∈ prints gh k w (T.getD c.B []) ∧ o + k ≤ c.Len := by
  have hlen := hc.least
  have hA := hc.same (c.Len - 1) (by have := hc.pos; omega)
  have hAl := hA.1
  have hBl := hA.2.1
  have hpos := hc.pos
  have hsA := select_ok (grams gh k (T.getD c.A [])) hw
  have hsB := select_ok (grams gh k (T.getD c.B [])) hw
  obtain ⟨m1, h1, r1⟩ := hsA.hit c.AtA (by rw [grams_length gh (by omega)]; omega)
  obtain ⟨m2, h2, r2⟩ := hsB.hit c.AtB (by rw [grams_length gh (by omega)]; omega)
  obtain ⟨o, rfl⟩ : ∃ o, m1 = c.AtA + o := ⟨m1 - c.AtA, by have := r1.1; omega⟩
  have ho : o < w := by have := r1.2.1; omega
  have hg : ∀ t, t < w → (grams gh k (T.getD c.A [])).getD (c.AtA + t) 0 = (grams gh k (T.getD c.B [])).getD (c.AtB + t) 0 := by
    intro t ht
    rw [grams_get gh (by omega), grams_get gh (by omega), window_eq (b := T.getD c.B []) (j := c.AtB + t)]
    intro u hu
    have := hc.same (t + u) (by omega)
    rwa [← Nat.add_assoc, ← Nat.add_assoc] at this
  have r3 : IsRm (grams gh k (T.getD c.B [])) c.AtB w (c.AtB + o) := r1.move hg
  obtain rfl := r2.unique r3
  exact ⟨(grams gh k (T.getD c.A [])).getD (c.AtA + o) 0, o, prints_mem.2 ⟨h1, rfl⟩, prints_mem.2 ⟨h2, hg o ho⟩, by omega⟩
end

section
variable {α : Type} [DecidableEq α] (a b : List α) (least : Nat)
/-- the pairs of places ahead of (i, j) -/
def grid (nb i j : Nat) : List (Nat × Nat) := (List.range i).flatMap (fun i' => (List.range nb).map fun j' => (i', j')) ++ (List.range j).map fun j' => (i, j')
theorem grid_zero (nb : Nat) : grid nb 0 0 = [] := rfl
theorem grid_step (nb i j : Nat) : grid nb i (j + 1) = grid nb i j ++ [(i, j)] := by
  unfold grid; rw [List.range_succ, List.map_append, ← List.append_assoc]; rfl
theorem grid_row (nb i : Nat) : grid nb i nb = grid nb (i + 1) 0 := by
  unfold grid; rw [List.range_succ (n := i), List.flatMap_append]; simp
theorem mem_grid {nb i : Nat} {p : Nat × Nat} : p ∈ grid nb i 0 ↔ p.1 < i ∧ p.2 < nb := by
  unfold grid
  simp only [List.range_zero, List.map_nil, List.append_nil, List.mem_flatMap, List.mem_range, List.mem_map]
  constructor
  · rintro ⟨x, hx, y, hy, rfl⟩; exact ⟨hx, hy⟩
  · rintro ⟨h1, h2⟩; exact ⟨p.1, h1, p.2, h2, rfl⟩
theorem grid_sorted (nb i : Nat) : (grid nb i 0).Pairwise fun p q => p.1 < q.1 ∨ p.1 = q.1 ∧ p.2 < q.2 := by
  unfold grid
  simp only [List.range_zero, List.map_nil, List.append_nil]
  rw [List.pairwise_flatMap]
  refine ⟨fun x _ => ?_, ?_⟩
  · rw [List.pairwise_map]
    exact List.pairwise_lt_range.imp fun h => .inr ⟨rfl, h⟩
  · refine List.pairwise_lt_range.imp fun h => ?_
    intro p hp q hq
    obtain ⟨_, _, rfl⟩ := List.mem_map.1 hp
    obtain ⟨_, _, rfl⟩ := List.mem_map.1 hq
    exact .inl h

/-- is a pair of places the start of a maximal run of the least length -/
def starts (p : Nat × Nat) : Bool := decide (least ≤ fwd a p.1 b p.2) && (decide (p.1 = 0) || decide (p.2 = 0) || !decide (a[p.1 - 1]? = b[p.2 - 1]?))
def wantOf (l : List (Nat × Nat)) : List Cl := (l.filter (starts a b least)).map fun p => ⟨0, p.1, 1, p.2, fwd a p.1 b p.2⟩
def farOf (l : List (Nat × Nat)) : Nat := l.foldl (fun m p => max m (fwd a p.1 b p.2)) 0
theorem wantOf_snoc (l : List (Nat × Nat)) (p : Nat × Nat) : wantOf a b least (l ++ [p]) = if starts a b least p = true then wantOf a b least l ++ [⟨0, p.1, 1, p.2, fwd a p.1 b p.2⟩] else wantOf a b least l := by
  unfold wantOf
  rw [List.filter_append]
  by_cases h : starts a b least p = true
  · rw [if_pos h, List.filter_cons_of_pos h]; simp
  · rw [if_neg h, List.filter_cons_of_neg h]; simp
theorem farOf_snoc (l : List (Nat × Nat)) (p : Nat × Nat) : farOf a b (l ++ [p]) = max (farOf a b l) (fwd a p.1 b p.2) := by
  unfold farOf; rw [List.foldl_append]; rfl
def want : List Cl := wantOf a b least (grid b.length a.length 0)
def far : Nat := farOf a b (grid b.length a.length 0)

theorem want_sorted : (want a b least).Pairwise Cl.before := by
  unfold want wantOf
  rw [List.pairwise_map]
  refine List.Pairwise.filter _ ((grid_sorted b.length a.length).imp fun h => ?_)
  refine .inr ⟨rfl, ?_⟩
  rcases h with h | ⟨h1, h2⟩
  · exact .inl h
  · exact .inr ⟨h1, .inr ⟨rfl, h2⟩⟩

variable {a b least}
theorem mem_want (hl : 1 ≤ least) (c : Cl) : c ∈ want a b least ↔ IsClone [a, b] least c ∧ c.A ≠ c.B := by
  unfold want wantOf
  rw [List.mem_map]
  constructor
  · rintro ⟨p, hp, rfl⟩
    obtain ⟨hg, hs⟩ := List.mem_filter.1 hp
    obtain ⟨h1, h2⟩ := mem_grid.1 hg
    unfold starts at hs
    simp only [Bool.and_eq_true, Bool.or_eq_true, decide_eq_true_eq, Bool.not_eq_true', decide_eq_false_iff_not] at hs
    obtain ⟨hs1, hs2⟩ := hs
    refine ⟨⟨by simp, .inl (by simp), hs1, by simp only; omega, fun t ht => fwd_same ht, fwd_stop, ?_⟩, by simp⟩
    show p.1 = 0 ∨ p.2 = 0 ∨ ¬ Same a (p.1 - 1) b (p.2 - 1)
    rcases hs2 with (g | g) | g
    · exact .inl g
    · exact .inr (.inl g)
    · exact .inr (.inr fun k => g k.2.2)
  · rintro ⟨hc, hne⟩
    have hB : c.B < 2 := hc.bT
    have hA : c.A = 0 := by rcases hc.ord with g | g <;> omega
    have hB1 : c.B = 1 := by rcases hc.ord with g | g <;> omega
    have hs := hc.same
    have hst := hc.stop
    have hsa := hc.start
    rw [hA, hB1] at hs hst hsa
    change ∀ t, t < c.Len → Same a (c.AtA + t) b (c.AtB + t) at hs
    change ¬ Same a (c.AtA + c.Len) b (c.AtB + c.Len) at hst
    change c.AtA = 0 ∨ c.AtB = 0 ∨ ¬ Same a (c.AtA - 1) b (c.AtB - 1) at hsa
    have h0 := hs 0 hc.pos
    have hf : fwd a c.AtA b c.AtB = c.Len := fwd_unique hs hst
    refine ⟨(c.AtA, c.AtB), List.mem_filter.2 ⟨mem_grid.2 ⟨h0.1, h0.2.1⟩, ?_⟩, ?_⟩
    · unfold starts
      simp only [Bool.and_eq_true, Bool.or_eq_true, decide_eq_true_eq, Bool.not_eq_true', decide_eq_false_iff_not]
      refine ⟨by rw [hf]; exact hc.least, ?_⟩
      rcases hsa with g | g | g
      · exact .inl (.inl g)
      · exact .inl (.inr g)
      · by_cases e1 : c.AtA = 0
        · exact .inl (.inl e1)
        · by_cases e2 : c.AtB = 0
          · exact .inl (.inr e2)
          · exact .inr fun k => g ⟨by have := h0.1; omega, by have := h0.2.1; omega, k⟩
    · simp only [hf]
      obtain ⟨c0, c1, c2, c3, c4⟩ := c
      simp only at hA hB1 ⊢
      rw [hA, hB1]

theorem got_want (hl : 1 ≤ least) {L : List Cl} (h : Clones [a, b] least L) : L.filter (fun c => !decide (c.A = c.B)) = want a b least := by
  refine ordered_ext (fun _ _ => Cl.before_asymm) (List.Pairwise.filter _ h.1) (want_sorted a b least) fun c => ?_
  rw [List.mem_filter, mem_want hl, h.2 c]
  simp

theorem fold_max_ge {β : Type} (f : β → Nat) : ∀ (l : List β) (m : Nat), m ≤ l.foldl (fun m p => max m (f p)) m ∧ ∀ p, p ∈ l → f p ≤ l.foldl (fun m p => max m (f p)) m
  | [], m => ⟨Nat.le_refl _, fun p hp => by cases hp⟩
  | x :: l, m => by
    obtain ⟨h1, h2⟩ := fold_max_ge f l (max m (f x))
    refine ⟨by simp only [List.foldl_cons]; omega, fun p hp => ?_⟩
    simp only [List.foldl_cons]
    rcases List.mem_cons.1 hp with rfl | hp
    · omega
    · exact h2 p hp
theorem fold_max_mem {β : Type} (f : β → Nat) : ∀ (l : List β) (m : Nat), l.foldl (fun m p => max m (f p)) m = m ∨ ∃ p, p ∈ l ∧ l.foldl (fun m p => max m (f p)) m = f p
  | [], m => .inl rfl
  | x :: l, m => by
    simp only [List.foldl_cons]
    rcases fold_max_mem f l (max m (f x)) with e | ⟨p, hp, e⟩
    · rw [e]
      rcases Nat.le_total m (f x) with g | g
      · exact .inr ⟨x, List.mem_cons_self, by omega⟩
      · exact .inl (by omega)
    · exact .inr ⟨p, List.mem_cons_of_mem _ hp, e⟩
end
end Kl
namespace Go.Proofs.YtbakoigejihnaaaGreatDoor.Bs
open Kl (far farOf grid mem_grid fold_max_ge fold_max_mem Same)
open Sam (Run bestS)
theorem far_best (a b : List ByteArray) : far a b = (bestS a b).1 := by
  have hb := best_best a b
  refine Nat.le_antisymm ?_ ?_
  · unfold far farOf
    rcases fold_max_mem (fun p : Nat × Nat => Kl.fwd a p.1 b p.2) (grid b.length a.length 0) 0 with e | ⟨p, hp, e⟩
    · rw [e]; exact Nat.zero_le _
    · rw [e]
      have hs : ∀ t, t < Kl.fwd a p.1 b p.2 → Same a (p.1 + t) b (p.2 + t) := fun t ht => Kl.fwd_same ht
      rcases Nat.eq_zero_or_pos (Kl.fwd a p.1 b p.2) with g | g
      · omega
      · obtain ⟨g1, g2, _⟩ := hs (Kl.fwd a p.1 b p.2 - 1) (by omega)
        have hr := hb.len ((a.drop p.1).take (Kl.fwd a p.1 b p.2)) (run_cut (by omega)) (by rw [Kl.window_eq hs]; exact run_cut (by omega))
        rw [List.length_take, List.length_drop] at hr
        omega
  · obtain ⟨r, h1, h2, h3⟩ := hb.run
    rcases Nat.eq_zero_or_pos r.length with g | g
    · omega
    · obtain ⟨i, hi, gi⟩ := run_get h1
      obtain ⟨j, hj, gj⟩ := run_get h2
      have hsame : ∀ t, t < r.length → Same a (i + t) b (j + t) := fun t ht => ⟨by omega, by omega, by rw [gi t ht, gj t ht]⟩
      have h4 := fwd_ge hsame
      have h5 := (fold_max_ge (fun p : Nat × Nat => Kl.fwd a p.1 b p.2) (grid b.length a.length 0) 0).2 (i, j) (mem_grid.2 ⟨by simp only; omega, by simp only; omega⟩)
      unfold far farOf
      simp only at h5
      omega
end Go.Proofs.YtbakoigejihnaaaGreatDoor.Bs
end
section
set_option linter.unusedSectionVars false
set_option linter.unusedVariables false
namespace Go.Proofs.YtbakoigejihnaaaGreatDoor.Ae
open Kl (Cl IsClone Clones Same)

def w0 : ByteArray := ⟨#[120]⟩
def w1 : ByteArray := ⟨#[61]⟩
def w2 : ByteArray := ⟨#[121]⟩
def w3 : ByteArray := ⟨#[43]⟩
def w4 : ByteArray := ⟨#[49]⟩
def w5 : ByteArray := ⟨#[122]⟩
def w6 : ByteArray := ⟨#[50]⟩
def ex : List (List ByteArray) := [[w0, w1, w2, w3, w4], [w5, w1, w2, w3, w6]]
/-- the same with numbers in the place of words -/
def exN : List (List Nat) := [[0, 1, 2, 3, 4], [5, 1, 2, 3, 6]]
def wd : Nat → ByteArray
  | 0 => w0
  | 1 => w1
  | 2 => w2
  | 3 => w3
  | 4 => w4
  | 5 => w5
  | _ => w6

def sameB (a : List Nat) (i : Nat) (b : List Nat) (j : Nat) : Bool := decide (i < a.length) && decide (j < b.length) && decide (a[i]? = b[j]?)
theorem sameB_iff {a b : List Nat} {i j : Nat} : sameB a i b j = true ↔ Same a i b j := by
  unfold sameB Same
  simp only [Bool.and_eq_true, decide_eq_true_eq, and_assoc]

def cloneB (T : List (List Nat)) (least : Nat) (c : Cl) : Bool :=
  decide (c.B < T.length) && (decide (c.A < c.B) || (decide (c.A = c.B) && decide (c.AtA < c.AtB))) && decide (least ≤ c.Len) && decide (0 < c.Len) &&
  (List.range c.Len).all (fun t => sameB (T.getD c.A []) (c.AtA + t) (T.getD c.B []) (c.AtB + t)) &&
  !sameB (T.getD c.A []) (c.AtA + c.Len) (T.getD c.B []) (c.AtB + c.Len) &&
  (decide (c.AtA = 0) || decide (c.AtB = 0) || !sameB (T.getD c.A []) (c.AtA - 1) (T.getD c.B []) (c.AtB - 1))

theorem cloneB_iff {T : List (List Nat)} {least : Nat} {c : Cl} : cloneB T least c = true ↔ IsClone T least c := by
  unfold cloneB
  simp only [Bool.and_eq_true, Bool.or_eq_true, decide_eq_true_eq, List.all_eq_true, List.mem_range, Bool.not_eq_true', ← Bool.not_eq_true, sameB_iff]
  constructor
  · rintro ⟨⟨⟨⟨⟨⟨h1, h2⟩, h3⟩, h4⟩, h5⟩, h6⟩, h7⟩
    exact ⟨h1, h2, h3, h4, h5, h6, h7.elim (fun g => g.elim .inl fun g => .inr (.inl g)) fun g => .inr (.inr g)⟩
  · rintro ⟨h1, h2, h3, h4, h5, h6, h7⟩
    exact ⟨⟨⟨⟨⟨⟨h1, h2⟩, h3⟩, h4⟩, h5⟩, h6⟩, h7.elim (fun g => .inl (.inl g)) fun g => g.elim (fun g => .inl (.inr g)) .inr⟩

def cand : List Cl := (List.range 2).flatMap fun A => (List.range 2).flatMap fun B => (List.range 6).flatMap fun i => (List.range 6).flatMap fun j => (List.range 6).map fun n => ⟨A, i, B, j, n⟩
theorem mem_cand {c : Cl} (h1 : c.A < 2) (h2 : c.B < 2) (h3 : c.AtA < 6) (h4 : c.AtB < 6) (h5 : c.Len < 6) : c ∈ cand := by
  unfold cand
  simp only [List.mem_flatMap, List.mem_map, List.mem_range]
  exact ⟨c.A, h1, c.B, h2, c.AtA, h3, c.AtB, h4, c.Len, h5, rfl⟩
def exCl : List Cl := [⟨0, 1, 1, 1, 3⟩]
theorem cand_filter : cand.filter (cloneB exN 3) = exCl := by decide +kernel

theorem exN_clone {c : Cl} : IsClone exN 3 c ↔ c ∈ exCl := by
  constructor
  · intro h
    have hB : c.B < 2 := h.bT
    have hA : c.A < 2 := by rcases h.ord with g | g <;> omega
    have hl : ∀ n, n < 2 → (exN.getD n []).length ≤ 5 := by decide
    obtain ⟨g1, g2, _⟩ := h.same (c.Len - 1) (by have := h.pos; omega)
    have := hl c.A hA
    have := hl c.B hB
    have hp := h.pos
    rw [← cand_filter, List.mem_filter]
    exact ⟨mem_cand hA hB (by omega) (by omega) (by omega), cloneB_iff.2 h⟩
  · intro h
    rw [← cand_filter, List.mem_filter] at h
    exact cloneB_iff.1 h.2

theorem wd_inj (x y : Nat) (hx : x < 7) (hy : y < 7) (h : wd x = wd y) : x = y := by
  have h' : (wd x).data.toList = (wd y).data.toList := by rw [h]
  have H : ∀ x : Fin 7, ∀ y : Fin 7, (wd x.1).data.toList = (wd y.1).data.toList → x.1 = y.1 := by decide
  exact H ⟨x, hx⟩ ⟨y, hy⟩ h'

theorem ex_getD (n : Nat) : ex.getD n [] = (exN.getD n []).map wd := by
  match n with
  | 0 => rfl
  | 1 => rfl
  | n + 2 => rfl

theorem same_iff (m n i j : Nat) : Same (ex.getD m []) i (ex.getD n []) j ↔ Same (exN.getD m []) i (exN.getD n []) j := by
  have hlt : ∀ n x, x ∈ exN.getD n [] → x < 7 := by
    intro n x hx
    match n, hx with
    | 0, hx => exact (show ∀ x, x ∈ [0, 1, 2, 3, 4] → x < 7 by decide) x hx
    | 1, hx => exact (show ∀ x, x ∈ [5, 1, 2, 3, 6] → x < 7 by decide) x hx
    | n + 2, hx => exact absurd hx (by simp [exN])
  rw [ex_getD, ex_getD]
  unfold Same
  rw [List.length_map, List.length_map, List.getElem?_map, List.getElem?_map]
  refine and_congr_right fun h1 => and_congr_right fun h2 => ?_
  rw [List.getElem?_eq_getElem h1, List.getElem?_eq_getElem h2]
  simp only [Option.map_some, Option.some.injEq]
  exact ⟨fun h => wd_inj _ _ (hlt m _ (List.getElem_mem _)) (hlt n _ (List.getElem_mem _)) h, fun h => by rw [h]⟩

theorem ex_clone {c : Cl} : IsClone ex 3 c ↔ IsClone exN 3 c := by
  constructor
  · intro h
    exact ⟨h.bT, h.ord, h.least, h.pos, fun t ht => (same_iff _ _ _ _).1 (h.same t ht), fun g => h.stop ((same_iff _ _ _ _).2 g), h.start.imp_right (·.imp_right fun k g => k ((same_iff _ _ _ _).2 g))⟩
  · intro h
    exact ⟨h.bT, h.ord, h.least, h.pos, fun t ht => (same_iff _ _ _ _).2 (h.same t ht), fun g => h.stop ((same_iff _ _ _ _).1 g), h.start.imp_right (·.imp_right fun k g => k ((same_iff _ _ _ _).1 g))⟩

theorem ex_clones : Clones ex 3 exCl := by
  refine ⟨?_, fun c => (ex_clone.trans exN_clone).symm⟩
  exact List.pairwise_singleton _ _

theorem ex_only {L : List Cl} (h : Clones ex 3 L) : L = exCl := h.unique ex_clones
end Go.Proofs.YtbakoigejihnaaaGreatDoor.Ae
end
