/- Plain theory of fingerprints and clones: what is found are all clones. Conditions: none. -/

section
set_option linter.unusedVariables false
namespace Kl

/-- m is the rightmost least place of the window of w numbers from s on -/
def IsRm (l : List Int) (s w m : Nat) : Prop :=
  s ≤ m ∧ m < s + w ∧ (∀ j, s ≤ j → j < m → l.getD m 0 ≤ l.getD j 0) ∧ (∀ j, m < j → j < s + w → l.getD m 0 < l.getD j 0)

theorem IsRm.unique {l : List Int} {s w m m' : Nat} (h : IsRm l s w m) (h' : IsRm l s w m') : m = m' := by
  obtain ⟨a1, a2, a3, a4⟩ := h
  obtain ⟨b1, b2, b3, b4⟩ := h'
  rcases Nat.lt_trichotomy m m' with g | g | g
  · have := a4 m' g b2; have := b3 m a1 g; omega
  · exact g
  · have := b4 m g a2; have := a3 m' b1 g; omega

theorem IsRm.move {l l' : List Int} {s s' w o : Nat} (h : IsRm l s w (s + o)) (he : ∀ t, t < w → l.getD (s + t) 0 = l'.getD (s' + t) 0) : IsRm l' s' w (s' + o) := by
  obtain ⟨a1, a2, a3, a4⟩ := h
  have ho : o < w := by omega
  refine ⟨by omega, by omega, fun j h1 h2 => ?_, fun j h1 h2 => ?_⟩
  · obtain ⟨t, rfl⟩ : ∃ t, j = s' + t := ⟨j - s', by omega⟩
    rw [← he o ho, ← he t (by omega)]
    exact a3 _ (by omega) (by omega)
  · obtain ⟨t, rfl⟩ : ∃ t, j = s' + t := ⟨j - s', by omega⟩
    rw [← he o ho, ← he t (by omega)]
    exact a4 _ (by omega) (by omega)

theorem IsRm.mono {l : List Int} {s w m m' : Nat} (h : IsRm l s w m) (h' : IsRm l (s + 1) w m') : m ≤ m' := by
  obtain ⟨a1, a2, a3, a4⟩ := h
  obtain ⟨b1, b2, b3, b4⟩ := h'
  rcases Nat.lt_or_ge m' m with g | g
  · have := a3 m' (by omega) g
    have := b4 m g (by omega)
    omega
  · exact g

theorem isRm_exists (l : List Int) (s : Nat) : ∀ w, 0 < w → ∃ m, IsRm l s w m
  | 0, h => absurd h (by omega)
  | 1, _ => ⟨s, by omega, by omega, fun j h1 h2 => by omega, fun j h1 h2 => by omega⟩
  | w + 2, _ => by
    obtain ⟨m, a1, a2, a3, a4⟩ := isRm_exists l s (w + 1) (by omega)
    by_cases g : l.getD (s + (w + 1)) 0 ≤ l.getD m 0
    · refine ⟨s + (w + 1), by omega, by omega, fun j h1 h2 => ?_, fun j h1 h2 => by omega⟩
      rcases Nat.lt_trichotomy j m with q | q | q
      · have := a3 j h1 q; omega
      · subst q; exact g
      · have := a4 j q (by omega); omega
    · refine ⟨m, a1, by omega, a3, fun j h1 h2 => ?_⟩
      rcases Nat.lt_or_ge j (s + (w + 1)) with q | q
      · exact a4 j h1 q
      · obtain rfl : j = s + (w + 1) := by omega
        omega

/-- numbers that are not less than a later one leave the queue at its end -/
def pops (l : List Int) (x : Int) (st : List Nat) : List Nat := (st.reverse.dropWhile fun j => decide (x ≤ l.getD j 0)).reverse

theorem pops_nil (l : List Int) (x : Int) : pops l x [] = [] := rfl
theorem pops_last {l : List Int} {x : Int} {st : List Nat} {j : Nat} (h : x ≤ l.getD j 0) : pops l x (st ++ [j]) = pops l x st := by
  unfold pops; simp only [List.reverse_append, List.reverse_cons, List.reverse_nil, List.nil_append, List.singleton_append, List.dropWhile_cons]
  rw [if_pos (by simpa using h)]
theorem pops_stay {l : List Int} {x : Int} {st : List Nat} {j : Nat} (h : ¬ x ≤ l.getD j 0) : pops l x (st ++ [j]) = st ++ [j] := by
  unfold pops; simp only [List.reverse_append, List.reverse_cons, List.reverse_nil, List.nil_append, List.singleton_append, List.dropWhile_cons]
  rw [if_neg (by simpa using h)]; simp

/-- the queue behind the place i: the places of the window that are less than all later ones -/
def stay (l : List Int) (w i : Nat) : List Nat := (List.range (i + 1)).filter fun j => decide (i < j + w) && (List.range (i + 1)).all fun j' => decide (j < j' → l.getD j 0 < l.getD j' 0)

theorem mem_stay {l : List Int} {w i j : Nat} : j ∈ stay l w i ↔ j ≤ i ∧ i < j + w ∧ ∀ j', j < j' → j' ≤ i → l.getD j 0 < l.getD j' 0 := by
  unfold stay
  simp only [List.mem_filter, List.mem_range, Bool.and_eq_true, decide_eq_true_eq, List.all_eq_true]
  constructor
  · rintro ⟨h1, h2, h3⟩
    exact ⟨by omega, h2, fun j' h4 h5 => h3 j' (by omega) h4⟩
  · rintro ⟨h1, h2, h3⟩
    exact ⟨by omega, h2, fun j' h4 h5 => h3 j' h5 (by omega)⟩

theorem stay_sorted (l : List Int) (w i : Nat) : (stay l w i).Pairwise (· < ·) := List.Pairwise.filter _ List.pairwise_lt_range

/-- two rising lists with the same members are one -/
theorem sorted_ext : ∀ {a b : List Nat}, a.Pairwise (· < ·) → b.Pairwise (· < ·) → (∀ x, x ∈ a ↔ x ∈ b) → a = b
  | [], [], _, _, _ => rfl
  | [], y :: b, _, _, h => absurd ((h y).2 (by simp)) (by simp)
  | x :: a, [], _, _, h => absurd ((h x).1 (by simp)) (by simp)
  | x :: a, y :: b, ha, hb, h => by
    rw [List.pairwise_cons] at ha hb
    have e : x = y := by
      rcases List.mem_cons.1 ((h x).1 (by simp)) with g | g
      · exact g
      · rcases List.mem_cons.1 ((h y).2 (by simp)) with g' | g'
        · exact g'.symm
        · have := ha.1 y g'; have := hb.1 x g; omega
    subst e
    rw [sorted_ext ha.2 hb.2 (fun z => ?_)]
    constructor
    · intro hz
      rcases List.mem_cons.1 ((h z).1 (List.mem_cons_of_mem _ hz)) with g | g
      · have := ha.1 z hz; omega
      · exact g
    · intro hz
      rcases List.mem_cons.1 ((h z).2 (List.mem_cons_of_mem _ hz)) with g | g
      · have := hb.1 z hz; omega
      · exact g

/-- what the inner loop leaves -/
theorem pops_rev {l : List Int} {x : Int} : ∀ (r : List Nat), r.reverse.Pairwise (fun a b => l.getD a 0 < l.getD b 0) → pops l x r.reverse = r.reverse.filter fun j => decide (l.getD j 0 < x)
  | [], _ => rfl
  | j :: r, h => by
    rw [List.reverse_cons] at h ⊢
    rw [List.pairwise_append] at h
    by_cases g : x ≤ l.getD j 0
    · rw [pops_last g, pops_rev r h.1, List.filter_append]
      have : [j].filter (fun j => decide (l.getD j 0 < x)) = [] := by rw [List.filter_eq_nil_iff]; intro a ha; simp only [List.mem_singleton] at ha; subst ha; simp only [decide_eq_true_eq]; omega
      rw [this, List.append_nil]
    · rw [pops_stay g, eq_comm, List.filter_eq_self]
      intro k hk
      rw [decide_eq_true_eq]
      rcases List.mem_append.1 hk with hk | hk
      · have := h.2.2 k hk j (by simp); omega
      · simp only [List.mem_singleton] at hk; subst hk; omega

/-- one step of the queue -/
def qstep (l : List Int) (w i : Nat) (st : List Nat) : List Nat :=
  let s := pops l (l.getD i 0) st ++ [i]
  if s.headD 0 + w ≤ i then s.tail else s

theorem drop_head {s : List Nat} {w i : Nat} (hs : s.Pairwise (· < ·)) (hw : ∀ j, j ∈ s → i ≤ j + w) (hne : s ≠ []) {j : Nat} : j ∈ (if s.headD 0 + w ≤ i then s.tail else s) ↔ j ∈ s ∧ i < j + w := by
  cases s with
  | nil => exact absurd rfl hne
  | cons h t =>
    rw [List.pairwise_cons] at hs
    have hh := hw h (by simp)
    by_cases g0 : (h :: t).headD 0 + w ≤ i
    · have g : h + w ≤ i := g0
      rw [if_pos g0]
      show j ∈ t ↔ _
      constructor
      · intro hj; have := hs.1 j hj; exact ⟨List.mem_cons_of_mem _ hj, by omega⟩
      · rintro ⟨hj, g2⟩
        rcases List.mem_cons.1 hj with rfl | hj
        · omega
        · exact hj
    · have g : ¬ h + w ≤ i := g0
      rw [if_neg g0]
      constructor
      · intro hj
        refine ⟨hj, ?_⟩
        rcases List.mem_cons.1 hj with rfl | hj
        · omega
        · have := hs.1 j hj; omega
      · exact fun h => h.1

theorem tail_sorted {s : List Nat} {c : Prop} [Decidable c] (hs : s.Pairwise (· < ·)) : (if c then s.tail else s).Pairwise (· < ·) := by
  split
  · exact hs.sublist (List.tail_sublist s)
  · exact hs

theorem qstep_zero (l : List Int) {w : Nat} (hw : 0 < w) : qstep l w 0 [] = stay l w 0 := by
  unfold qstep
  rw [pops_nil]
  simp only [List.nil_append, List.headD_cons, Nat.zero_add, List.tail_cons]
  rw [if_neg (by omega)]
  refine sorted_ext (by simp) (stay_sorted _ _ _) fun x => ?_
  rw [mem_stay]
  simp only [List.mem_singleton]
  constructor
  · rintro rfl; exact ⟨by omega, by omega, fun j' h1 h2 => by omega⟩
  · rintro ⟨h1, _, _⟩; omega

theorem qstep_succ (l : List Int) {w : Nat} (hw : 0 < w) (i : Nat) : qstep l w (i + 1) (stay l w i) = stay l w (i + 1) := by
  have hp : pops l (l.getD (i + 1) 0) (stay l w i) = (stay l w i).filter fun j => decide (l.getD j 0 < l.getD (i + 1) 0) := by
    have := pops_rev (l := l) (x := l.getD (i + 1) 0) (stay l w i).reverse (by
      rw [List.reverse_reverse]
      refine List.Pairwise.imp_of_mem ?_ (stay_sorted l w i)
      intro a b ha hb hab
      exact (mem_stay.1 ha).2.2 b hab (mem_stay.1 hb).1)
    rwa [List.reverse_reverse] at this
  unfold qstep
  rw [hp]
  obtain ⟨s, hs⟩ : ∃ s, s = ((stay l w i).filter fun j => decide (l.getD j 0 < l.getD (i + 1) 0)) ++ [i + 1] := ⟨_, rfl⟩
  rw [← hs]
  have hm : ∀ j, j ∈ s ↔ (j ∈ stay l w i ∧ l.getD j 0 < l.getD (i + 1) 0) ∨ j = i + 1 := by intro j; rw [hs]; simp [List.mem_filter]
  have h1 : s.Pairwise (· < ·) := by
    rw [hs, List.pairwise_append]
    refine ⟨(stay_sorted _ _ _).filter _, by simp, fun a ha b hb => ?_⟩
    simp only [List.mem_singleton] at hb
    have := (mem_stay.1 (List.mem_filter.1 ha).1).1
    omega
  have h2 : ∀ j, j ∈ s → i + 1 ≤ j + w := by
    intro j hj
    rcases (hm j).1 hj with ⟨h, _⟩ | h
    · have := (mem_stay.1 h).2.1; omega
    · omega
  refine sorted_ext (tail_sorted h1) (stay_sorted _ _ _) fun j => ?_
  rw [drop_head h1 h2 (by rw [hs]; simp), hm, mem_stay, mem_stay]
  constructor
  · rintro ⟨⟨⟨a1, a2, a3⟩, a4⟩ | rfl, a5⟩
    · refine ⟨by omega, a5, fun j' g1 g2 => ?_⟩
      rcases Nat.lt_or_ge j' (i + 1) with q | q
      · exact a3 j' g1 (by omega)
      · obtain rfl : j' = i + 1 := by omega
        exact a4
    · exact ⟨by omega, by omega, fun j' g1 g2 => by omega⟩
  · rintro ⟨a1, a2, a3⟩
    refine ⟨?_, a2⟩
    rcases Nat.lt_or_ge j (i + 1) with q | q
    · exact .inl ⟨⟨by omega, by omega, fun j' g1 g2 => a3 j' g1 (by omega)⟩, a3 (i + 1) q (by omega)⟩
    · exact .inr (by omega)

theorem stay_head {l : List Int} {w i : Nat} (hw : 0 < w) (hi : w ≤ i + 1) : IsRm l (i + 1 - w) w ((stay l w i).headD 0) := by
  obtain ⟨m, hm⟩ := isRm_exists l (i + 1 - w) w hw
  have hmem : m ∈ stay l w i := mem_stay.2 ⟨by have := hm.2.1; omega, by have := hm.1; omega, fun j' h1 h2 => hm.2.2.2 j' h1 (by omega)⟩
  cases hs : stay l w i with
  | nil => rw [hs] at hmem; simp at hmem
  | cons h t =>
    simp only [List.headD_cons]
    have hh : h ∈ stay l w i := by rw [hs]; simp
    have hsort := stay_sorted l w i
    rw [hs] at hsort hmem
    rw [List.pairwise_cons] at hsort
    have h3 := mem_stay.1 hh
    rcases List.mem_cons.1 hmem with e | hmt
    · rw [← e]; exact hm
    · have hlt := hsort.1 m hmt
      have := h3.2.2 m hlt (by have := hm.2.1; omega)
      have := hm.2.2.1 h (by omega) hlt
      omega

/-- the selected places behind the first i numbers, and the queue -/
def sel (l : List Int) (w : Nat) : Nat → List Nat × List Nat
  | 0 => ([], [])
  | i + 1 =>
    let st := qstep l w i (sel l w i).2
    (if w ≤ i + 1 ∧ (sel l w i).1.getLast? ≠ some (st.headD 0) then (sel l w i).1 ++ [st.headD 0] else (sel l w i).1, st)

def select (l : List Int) (w : Nat) : List Nat := (sel l w l.length).1

theorem sel_queue (l : List Int) {w : Nat} (hw : 0 < w) : ∀ i, (sel l w (i + 1)).2 = stay l w i
  | 0 => qstep_zero l hw
  | i + 1 => by
    show qstep l w (i + 1) (sel l w (i + 1)).2 = _
    rw [sel_queue l hw i, qstep_succ l hw i]

structure SelOk (l : List Int) (w i : Nat) (out : List Nat) : Prop where
  rising : out.Pairwise (· < ·)
  lt : ∀ m, m ∈ out → m < i
  hit : ∀ s, s + w ≤ i → ∃ m, m ∈ out ∧ IsRm l s w m
  last : w ≤ i → ∃ m, out.getLast? = some m ∧ IsRm l (i - w) w m
  empty : i < w → out = []

theorem getLast_mem {out : List Nat} {m : Nat} (h : out.getLast? = some m) : m ∈ out := List.mem_of_getLast? h

theorem getLast_ge {out : List Nat} (hs : out.Pairwise (· < ·)) {m : Nat} (h : out.getLast? = some m) : ∀ x, x ∈ out → x ≤ m := by
  obtain ⟨l', rfl⟩ : ∃ l', out = l' ++ [m] := List.getLast?_eq_some_iff.1 h
  intro x hx
  rw [List.pairwise_append] at hs
  rcases List.mem_append.1 hx with g | g
  · have := hs.2.2 x g m (by simp); omega
  · simp only [List.mem_singleton] at g; omega

theorem sel_ok (l : List Int) {w : Nat} (hw : 0 < w) : ∀ i, SelOk l w i (sel l w i).1
  | 0 => ⟨by simp [sel], by simp [sel], fun s h => by omega, fun h => by omega, fun _ => rfl⟩
  | i + 1 => by
    have ih := sel_ok l hw i
    have hq := sel_queue l hw i
    have hq' : qstep l w i (sel l w i).2 = stay l w i := hq
    have e : (sel l w (i + 1)).1 = if w ≤ i + 1 ∧ (sel l w i).1.getLast? ≠ some ((stay l w i).headD 0) then (sel l w i).1 ++ [(stay l w i).headD 0] else (sel l w i).1 := by
      show (if w ≤ i + 1 ∧ (sel l w i).1.getLast? ≠ some ((qstep l w i (sel l w i).2).headD 0) then (sel l w i).1 ++ [(qstep l w i (sel l w i).2).headD 0] else (sel l w i).1) = _
      rw [hq']
    rw [e]
    clear e hq hq'
    generalize (sel l w i).1 = out at ih
    by_cases hwi : w ≤ i + 1
    · have hrm := stay_head (l := l) hw hwi
      generalize (stay l w i).headD 0 = h at hrm
      have hge : ∀ x, x ∈ out → x ≤ h := by
        rcases Nat.lt_or_ge i w with g | g
        · rw [ih.empty g]; simp
        · obtain ⟨m, h1, h2⟩ := ih.last g
          intro x hx
          have := getLast_ge ih.rising h1 x hx
          have h3 : IsRm l (i - w + 1) w h := by rw [show i - w + 1 = i + 1 - w by omega]; exact hrm
          have := h2.mono h3
          omega
      by_cases hl : out.getLast? = some h
      · rw [if_neg (by rintro ⟨_, g⟩; exact g hl)]
        refine ⟨ih.rising, fun m hm => by have := ih.lt m hm; omega, fun s hs => ?_, fun _ => ⟨h, hl, hrm⟩, fun g => by omega⟩
        rcases Nat.lt_or_ge (s + w) (i + 1) with g | g
        · exact ih.hit s (by omega)
        · obtain rfl : s = i + 1 - w := by omega
          exact ⟨h, getLast_mem hl, hrm⟩
      · rw [if_pos ⟨hwi, hl⟩]
        have hlt : ∀ x, x ∈ out → x < h := by
          intro x hx
          have h1 := hge x hx
          rcases Nat.lt_or_ge x h with g | g
          · exact g
          · obtain rfl : x = h := by omega
            exfalso
            rcases Nat.lt_or_ge i w with q | q
            · rw [ih.empty q] at hx; simp at hx
            · obtain ⟨m, g1, g2⟩ := ih.last q
              have := getLast_ge ih.rising g1 x hx
              have := hge m (getLast_mem g1)
              obtain rfl : m = x := by omega
              exact hl g1
        refine ⟨?_, fun m hm => ?_, fun s hs => ?_, fun _ => ⟨h, by simp, hrm⟩, fun g => by omega⟩
        · rw [List.pairwise_append]
          exact ⟨ih.rising, by simp, fun a ha b hb => by simp only [List.mem_singleton] at hb; subst hb; exact hlt a ha⟩
        · rcases List.mem_append.1 hm with g | g
          · have := ih.lt m g; omega
          · simp only [List.mem_singleton] at g; subst g; have := hrm.2.1; omega
        · rcases Nat.lt_or_ge (s + w) (i + 1) with g | g
          · obtain ⟨m, h1, h2⟩ := ih.hit s (by omega)
            exact ⟨m, List.mem_append_left _ h1, h2⟩
          · obtain rfl : s = i + 1 - w := by omega
            exact ⟨h, by simp, hrm⟩
    · rw [if_neg (by rintro ⟨g, _⟩; omega)]
      exact ⟨ih.rising, fun m hm => by have := ih.lt m hm; omega, fun s hs => by omega, fun g => by omega, fun g => ih.empty (by omega)⟩

theorem select_ok (l : List Int) {w : Nat} (hw : 0 < w) : SelOk l w l.length (select l w) := sel_ok l hw _
end Kl
end
section
set_option linter.unusedVariables false
set_option linter.unusedSectionVars false
namespace Kl
section
variable {α : Type} [DecidableEq α]

/-- how many words are the same at the head -/
def lcp : List α → List α → Nat
  | a :: x, b :: y => if a = b then lcp x y + 1 else 0
  | _, _ => 0

theorem lcp_le : ∀ (x y : List α), lcp x y ≤ x.length ∧ lcp x y ≤ y.length
  | [], _ => by simp [lcp]
  | _ :: _, [] => by simp [lcp]
  | a :: x, b :: y => by
    have := lcp_le x y
    unfold lcp
    split <;> simp <;> omega

theorem lcp_get : ∀ (x y : List α) (t : Nat), t < lcp x y → x[t]? = y[t]?
  | [], _, t, h => by simp [lcp] at h
  | _ :: _, [], t, h => by simp [lcp] at h
  | a :: x, b :: y, t, h => by
    unfold lcp at h
    split at h
    · rename_i e
      cases t with
      | zero => simp [e]
      | succ t => simpa using lcp_get x y t (by omega)
    · omega

theorem lcp_stop : ∀ (x y : List α), lcp x y < x.length → lcp x y < y.length → x[lcp x y]? ≠ y[lcp x y]?
  | [], _, h, _ => by simp at h
  | _ :: _, [], _, h => by simp at h
  | a :: x, b :: y, h1, h2 => by
    unfold lcp at h1 h2 ⊢
    by_cases e : a = b
    · rw [if_pos e] at h1 h2 ⊢
      simp only [List.length_cons] at h1 h2
      simpa using lcp_stop x y (by omega) (by omega)
    · rw [if_neg e]; simpa using e

/-- two words are the same -/
def Same (a : List α) (i : Nat) (b : List α) (j : Nat) : Prop := i < a.length ∧ j < b.length ∧ a[i]? = b[j]?

instance (a : List α) (i : Nat) (b : List α) (j : Nat) : Decidable (Same a i b j) := by unfold Same; exact inferInstance

theorem Same.symm {a b : List α} {i j : Nat} (h : Same a i b j) : Same b j a i := ⟨h.2.1, h.1, h.2.2.symm⟩

def fwd (a : List α) (i : Nat) (b : List α) (j : Nat) : Nat := lcp (a.drop i) (b.drop j)
def bwd (a : List α) (i : Nat) (b : List α) (j : Nat) : Nat := lcp (a.take i).reverse (b.take j).reverse

theorem fwd_same {a b : List α} {i j t : Nat} (h : t < fwd a i b j) : Same a (i + t) b (j + t) := by
  have h1 := lcp_le (a.drop i) (b.drop j)
  have h2 := lcp_get _ _ t h
  unfold fwd at h
  simp only [List.length_drop, List.getElem?_drop] at h1 h2
  exact ⟨by omega, by omega, h2⟩
theorem fwd_stop {a b : List α} {i j : Nat} : ¬ Same a (i + fwd a i b j) b (j + fwd a i b j) := by
  rintro ⟨h1, h2, h3⟩
  have := lcp_stop (a.drop i) (b.drop j) (by simp only [List.length_drop]; unfold fwd at h1; omega) (by simp only [List.length_drop]; unfold fwd at h2; omega)
  simp only [List.getElem?_drop] at this
  exact this h3
theorem fwd_unique {a b : List α} {i j n : Nat} (h : ∀ t, t < n → Same a (i + t) b (j + t)) (hs : ¬ Same a (i + n) b (j + n)) : fwd a i b j = n := by
  rcases Nat.lt_trichotomy (fwd a i b j) n with g | g | g
  · exact absurd (h _ g) fwd_stop
  · exact g
  · exact absurd (fwd_same g) hs
theorem fwd_pos {a b : List α} {i j : Nat} : 0 < fwd a i b j ↔ Same a i b j := by
  constructor
  · intro h; have := fwd_same h; simpa using this
  · intro h
    rcases Nat.eq_zero_or_pos (fwd a i b j) with g | g
    · have := fwd_stop (a := a) (i := i) (b := b) (j := j)
      rw [g] at this
      exact absurd (by simpa using h) this
    · exact g

theorem rev_take_get {a : List α} {i t : Nat} (hi : i ≤ a.length) (ht : t < i) : (a.take i).reverse[t]? = a[i - 1 - t]? := by
  rw [List.getElem?_reverse (by simp; omega), List.getElem?_take_of_lt (by simp; omega)]
  congr 1
  simp; omega

theorem bwd_le {a b : List α} {i j : Nat} : bwd a i b j ≤ i ∧ bwd a i b j ≤ j := by
  have := lcp_le (a.take i).reverse (b.take j).reverse
  unfold bwd
  simp only [List.length_reverse, List.length_take] at this
  omega
theorem bwd_same {a b : List α} {i j t : Nat} (hi : i ≤ a.length) (hj : j ≤ b.length) (h : t < bwd a i b j) : Same a (i - 1 - t) b (j - 1 - t) := by
  have h1 := bwd_le (a := a) (i := i) (b := b) (j := j)
  have h2 := lcp_get _ _ t h
  rw [rev_take_get hi (by omega), rev_take_get hj (by omega)] at h2
  exact ⟨by omega, by omega, h2⟩
theorem bwd_stop {a b : List α} {i j : Nat} (hi : i ≤ a.length) (hj : j ≤ b.length) (h1 : bwd a i b j < i) (h2 : bwd a i b j < j) : ¬ Same a (i - 1 - bwd a i b j) b (j - 1 - bwd a i b j) := by
  rintro ⟨_, _, h3⟩
  have := lcp_stop (a.take i).reverse (b.take j).reverse (by simp only [List.length_reverse, List.length_take]; unfold bwd at h1; omega) (by simp only [List.length_reverse, List.length_take]; unfold bwd at h2; omega)
  change (a.take i).reverse[bwd a i b j]? ≠ (b.take j).reverse[bwd a i b j]? at this
  rw [rev_take_get hi h1, rev_take_get hj h2] at this
  exact this h3
end

structure Plc where
  text : Nat
  at_ : Nat
deriving DecidableEq

structure Cl where
  A : Nat
  AtA : Nat
  B : Nat
  AtB : Nat
  Len : Nat
deriving DecidableEq

def Plc.lt (x y : Plc) : Prop := x.text < y.text ∨ x.text = y.text ∧ x.at_ < y.at_
instance (x y : Plc) : Decidable (x.lt y) := by unfold Plc.lt; exact inferInstance

section
variable {α : Type} [DecidableEq α]

/-- a clone of at least 'least' words -/
structure IsClone (T : List (List α)) (least : Nat) (c : Cl) : Prop where
  bT : c.B < T.length
  ord : c.A < c.B ∨ c.A = c.B ∧ c.AtA < c.AtB
  least : least ≤ c.Len
  pos : 0 < c.Len
  same : ∀ t, t < c.Len → Same (T.getD c.A []) (c.AtA + t) (T.getD c.B []) (c.AtB + t)
  stop : ¬ Same (T.getD c.A []) (c.AtA + c.Len) (T.getD c.B []) (c.AtB + c.Len)
  start : c.AtA = 0 ∨ c.AtB = 0 ∨ ¬ Same (T.getD c.A []) (c.AtA - 1) (T.getD c.B []) (c.AtB - 1)

def fromOf (T : List (List α)) (x y : Plc) : Nat := bwd (T.getD x.text []) x.at_ (T.getD y.text []) y.at_
def toOf (T : List (List α)) (x y : Plc) : Nat := fwd (T.getD x.text []) x.at_ (T.getD y.text []) y.at_
def runAt (T : List (List α)) (x y : Plc) : Cl := ⟨x.text, x.at_ - fromOf T x y, y.text, y.at_ - fromOf T x y, fromOf T x y + toOf T x y⟩
def SameAt (T : List (List α)) (x y : Plc) : Prop := Same (T.getD x.text []) x.at_ (T.getD y.text []) y.at_

theorem to_pos {T : List (List α)} {x y : Plc} : 0 < toOf T x y ↔ SameAt T x y := fwd_pos

theorem run_same {T : List (List α)} {x y : Plc} (h : SameAt T x y) (t : Nat) (ht : t < fromOf T x y + toOf T x y) : Same (T.getD x.text []) (x.at_ - fromOf T x y + t) (T.getD y.text []) (y.at_ - fromOf T x y + t) := by
  have hb : fromOf T x y ≤ x.at_ ∧ fromOf T x y ≤ y.at_ := bwd_le
  rcases Nat.lt_or_ge t (fromOf T x y) with g | g
  · have := bwd_same (a := T.getD x.text []) (b := T.getD y.text []) (i := x.at_) (j := y.at_) (t := fromOf T x y - 1 - t) (Nat.le_of_lt h.1) (Nat.le_of_lt h.2.1) (by unfold fromOf at g ⊢; omega)
    rw [show x.at_ - fromOf T x y + t = x.at_ - 1 - (fromOf T x y - 1 - t) by omega, show y.at_ - fromOf T x y + t = y.at_ - 1 - (fromOf T x y - 1 - t) by omega]
    exact this
  · have := fwd_same (a := T.getD x.text []) (b := T.getD y.text []) (i := x.at_) (j := y.at_) (t := t - fromOf T x y) (by unfold toOf at ht; omega)
    rw [show x.at_ - fromOf T x y + t = x.at_ + (t - fromOf T x y) by omega, show y.at_ - fromOf T x y + t = y.at_ + (t - fromOf T x y) by omega]
    exact this

theorem isClone_runAt {T : List (List α)} {least : Nat} {x y : Plc} (h : SameAt T x y) (hy : y.text < T.length) (hxy : x.lt y) (hl : least ≤ fromOf T x y + toOf T x y) : IsClone T least (runAt T x y) := by
  have hb : fromOf T x y ≤ x.at_ ∧ fromOf T x y ≤ y.at_ := bwd_le
  refine ⟨hy, ?_, hl, ?_, fun t ht => run_same h t ht, ?_, ?_⟩
  · rcases hxy with g | ⟨g1, g2⟩
    · exact .inl g
    · exact .inr ⟨g1, by simp only [runAt]; omega⟩
  · have := to_pos.2 h; simp only [runAt]; omega
  · have := fwd_stop (a := T.getD x.text []) (b := T.getD y.text []) (i := x.at_) (j := y.at_)
    simp only [runAt]
    rw [show x.at_ - fromOf T x y + (fromOf T x y + toOf T x y) = x.at_ + toOf T x y by omega, show y.at_ - fromOf T x y + (fromOf T x y + toOf T x y) = y.at_ + toOf T x y by omega]
    exact this
  · simp only [runAt]
    by_cases h1 : fromOf T x y < x.at_ ∧ fromOf T x y < y.at_
    · have := bwd_stop (a := T.getD x.text []) (b := T.getD y.text []) (i := x.at_) (j := y.at_) (Nat.le_of_lt h.1) (Nat.le_of_lt h.2.1) h1.1 h1.2
      rw [show x.at_ - fromOf T x y - 1 = x.at_ - 1 - fromOf T x y by omega, show y.at_ - fromOf T x y - 1 = y.at_ - 1 - fromOf T x y by omega]
      exact .inr (.inr this)
    · omega

/-- a maximal run is told by any place of it -/
theorem run_unique {T : List (List α)} {least : Nat} {c : Cl} (hc : IsClone T least c) {x y : Plc} (hA : x.text = c.A) (hB : y.text = c.B) {o : Nat} (ho : o < c.Len) (hx : x.at_ = c.AtA + o) (hy : y.at_ = c.AtB + o) : runAt T x y = c := by
  have hs : SameAt T x y := by unfold SameAt; rw [hA, hB, hx, hy]; exact hc.same o ho
  have hto : toOf T x y = c.Len - o := by
    unfold toOf
    rw [hA, hB, hx, hy]
    refine fwd_unique (fun t ht => ?_) ?_
    · have := hc.same (o + t) (by omega); rwa [← Nat.add_assoc, ← Nat.add_assoc] at this
    · have := hc.stop; rwa [show c.AtA + o + (c.Len - o) = c.AtA + c.Len by omega, show c.AtB + o + (c.Len - o) = c.AtB + c.Len by omega]
  have hb : fromOf T x y ≤ x.at_ ∧ fromOf T x y ≤ y.at_ := bwd_le
  have hfr : fromOf T x y = o := by
    rcases Nat.lt_trichotomy (fromOf T x y) o with g | g | g
    · exfalso
      have h1 := bwd_stop (a := T.getD x.text []) (b := T.getD y.text []) (i := x.at_) (j := y.at_) (Nat.le_of_lt hs.1) (Nat.le_of_lt hs.2.1) (by unfold fromOf at g; omega) (by unfold fromOf at g; omega)
      change ¬ Same (T.getD x.text []) (x.at_ - 1 - fromOf T x y) (T.getD y.text []) (y.at_ - 1 - fromOf T x y) at h1
      have h2 := hc.same (o - 1 - fromOf T x y) (by omega)
      rw [show x.at_ - 1 - fromOf T x y = c.AtA + (o - 1 - fromOf T x y) by omega, show y.at_ - 1 - fromOf T x y = c.AtB + (o - 1 - fromOf T x y) by omega, hA, hB] at h1
      exact h1 h2
    · exact g
    · exfalso
      rcases hc.start with h | h | h
      · omega
      · omega
      · have := run_same hs (fromOf T x y - o - 1) (by omega)
        rw [show x.at_ - fromOf T x y + (fromOf T x y - o - 1) = c.AtA - 1 by omega, show y.at_ - fromOf T x y + (fromOf T x y - o - 1) = c.AtB - 1 by omega, hA, hB] at this
        exact h this
  unfold runAt
  rw [hto, hfr, hA, hB, hx, hy]
  obtain ⟨A, AtA, B, AtB, Len⟩ := c
  simp only at ho ⊢
  congr 1 <;> omega

theorem clone_key {T : List (List α)} {least : Nat} {c d : Cl} (hc : IsClone T least c) (hd : IsClone T least d) (h1 : c.A = d.A) (h2 : c.AtA = d.AtA) (h3 : c.B = d.B) (h4 : c.AtB = d.AtB) : c = d := by
  have e1 := run_unique hc (x := ⟨c.A, c.AtA⟩) (y := ⟨c.B, c.AtB⟩) rfl rfl hc.pos rfl rfl
  have e2 := run_unique hd (x := ⟨c.A, c.AtA⟩) (y := ⟨c.B, c.AtB⟩) h1 h3 hd.pos h2 h4
  rw [← e1, e2]

abbrev Diag := Nat × Nat × Int
def diag (x y : Plc) : Diag := (x.text, y.text, (y.at_ : Int) - x.at_)

/-- the finder: where each diagonal has been looked at, and the clones that were found -/
structure Fin where
  seen : Diag → Option Nat
  found : Cl → Option Unit

def Fin.start : Fin := ⟨fun _ => none, fun _ => none⟩

/-- a pair of places is looked at -/
def look (T : List (List α)) (least : Nat) (S : Fin) (p : Plc × Plc) : Fin :=
  if p.1.at_ < (S.seen (diag p.1 p.2)).getD 0 then S
  else ⟨fun d => if d = diag p.1 p.2 then some (p.1.at_ + max (toOf T p.1 p.2) 1) else S.seen d,
    fun c => if least ≤ (runAt T p.1 p.2).Len ∧ 0 < toOf T p.1 p.2 ∧ c = runAt T p.1 p.2 then some () else S.found c⟩

structure LookOk (T : List (List α)) (least : Nat) (S : Fin) (done : List (Plc × Plc)) : Prop where
  sound : ∀ c, S.found c ≠ none → IsClone T least c
  full : ∀ p, p ∈ done → SameAt T p.1 p.2 → least ≤ (runAt T p.1 p.2).Len → S.found (runAt T p.1 p.2) ≠ none
  seen : ∀ d e, S.seen d = some e → ∃ p, p ∈ done ∧ d = diag p.1 p.2 ∧ e = p.1.at_ + max (toOf T p.1 p.2) 1

theorem lookOk_start (T : List (List α)) (least : Nat) : LookOk T least Fin.start [] := ⟨fun c h => absurd rfl h, fun p h => by simp at h, fun d e h => by cases h⟩

theorem lookOk_step {T : List (List α)} {least : Nat} {S : Fin} {done : List (Plc × Plc)} (h : LookOk T least S done) {p : Plc × Plc} (hy : p.2.text < T.length) (hp : p.1.lt p.2)
    (hord : ∀ q, q ∈ done → q.1.text = p.1.text → q.1.at_ ≤ p.1.at_) : LookOk T least (look T least S p) (done ++ [p]) := by
  obtain ⟨x, y⟩ := p
  simp only at hy hp hord
  by_cases hs : x.at_ < (S.seen (diag x y)).getD 0
  · rw [show look T least S (x, y) = S from if_pos hs]
    refine ⟨h.sound, fun q hq hsm hl => ?_, fun d e he => ?_⟩
    · rcases List.mem_append.1 hq with g | g
      · exact h.full q g hsm hl
      · simp only [List.mem_singleton] at g
        subst g
        simp only at hsm hl ⊢
        cases hse : S.seen (diag x y) with
        | none => rw [hse] at hs; simp at hs
        | some e =>
          rw [hse] at hs
          simp only [Option.getD_some] at hs
          obtain ⟨⟨x', y'⟩, hq', hd, he⟩ := h.seen _ _ hse
          simp only [diag, Prod.mk.injEq] at hd he
          have hle := hord _ hq' hd.1.symm
          simp only at hle
          have hoff : y.at_ - x.at_ + x'.at_ = y'.at_ ∨ y.at_ + x'.at_ = y'.at_ + x.at_ := by omega
          have hpos : 0 < toOf T x' y' := by
            rcases Nat.eq_zero_or_pos (toOf T x' y') with g | g
            · exfalso
              have e1 : x.at_ = x'.at_ := by omega
              have e2 : y.at_ = y'.at_ := by omega
              have : SameAt T x' y' := by unfold SameAt at hsm ⊢; rw [← hd.1, ← hd.2.1, ← e1, ← e2]; exact hsm
              have := to_pos.2 this
              omega
            · exact g
          have hs' := to_pos.1 hpos
          -- the run at (x', y') holds (x, y)
          have hrun : runAt T x y = runAt T x' y' := by
            have hb : fromOf T x' y' ≤ x'.at_ ∧ fromOf T x' y' ≤ y'.at_ := bwd_le
            by_cases hlt : x'.lt y'
            · have hyt : y'.text < T.length := by rw [← hd.2.1]; exact hy
              refine run_unique (isClone_runAt (least := 0) hs' hyt hlt (Nat.zero_le _)) hd.1 hd.2.1 (o := fromOf T x' y' + (x.at_ - x'.at_)) ?_ ?_ ?_
              · simp only [runAt]; omega
              · simp only [runAt]; omega
              · simp only [runAt]; omega
            · exfalso
              apply hlt
              rcases hp with g | ⟨g1, g2⟩
              · exact .inl (by omega)
              · exact .inr ⟨by omega, by omega⟩
          rw [hrun] at hl ⊢
          exact h.full (x', y') hq' hs' hl
    · obtain ⟨q, hq, h1, h2⟩ := h.seen d e he
      exact ⟨q, List.mem_append_left _ hq, h1, h2⟩
  · rw [show look T least S (x, y) = _ from if_neg hs]
    refine ⟨fun c hc => ?_, fun q hq hsm hl => ?_, fun d e he => ?_⟩
    · simp only at hc
      split at hc
      · rename_i g
        obtain ⟨g1, g2, rfl⟩ := g
        exact isClone_runAt (to_pos.1 g2) hy hp g1
      · exact h.sound c hc
    · rcases List.mem_append.1 hq with g | g
      · have := h.full q g hsm hl
        simp only
        split
        · simp
        · exact this
      · simp only [List.mem_singleton] at g
        subst g
        show (if least ≤ (runAt T x y).Len ∧ 0 < toOf T x y ∧ runAt T x y = runAt T x y then some () else S.found (runAt T x y)) ≠ none
        rw [if_pos ⟨hl, to_pos.2 hsm, rfl⟩]
        simp
    · simp only at he
      split at he
      · rename_i g
        cases he
        exact ⟨(x, y), by simp, g, rfl⟩
      · obtain ⟨q, hq, h1, h2⟩ := h.seen d e he
        exact ⟨q, List.mem_append_left _ hq, h1, h2⟩

def looks (T : List (List α)) (least : Nat) (P : List (Plc × Plc)) : Fin := P.foldl (look T least) Fin.start

theorem looks_snoc (T : List (List α)) (least : Nat) (P : List (Plc × Plc)) (p : Plc × Plc) : looks T least (P ++ [p]) = look T least (looks T least P) p := by
  unfold looks; rw [List.foldl_append]; rfl

/-- pairs in the order in which they are looked at -/
structure PairsOk (T : List (List α)) (P : List (Plc × Plc)) : Prop where
  text : ∀ p, p ∈ P → p.2.text < T.length
  lt : ∀ p, p ∈ P → p.1.lt p.2
  ord : P.Pairwise fun p q => p.1.text = q.1.text → p.1.at_ ≤ q.1.at_

theorem PairsOk.init {T : List (List α)} {P : List (Plc × Plc)} {p : Plc × Plc} (h : PairsOk T (P ++ [p])) : PairsOk T P :=
  ⟨fun q hq => h.text q (List.mem_append_left _ hq), fun q hq => h.lt q (List.mem_append_left _ hq), (List.pairwise_append.1 h.ord).1⟩

theorem looks_ok {T : List (List α)} {least : Nat} (P : List (Plc × Plc)) (h : PairsOk T P) : LookOk T least (looks T least P) P := by
  suffices H : ∀ (R : List (Plc × Plc)), PairsOk T R.reverse → LookOk T least (looks T least R.reverse) R.reverse by
    have := H P.reverse (by rwa [List.reverse_reverse])
    rwa [List.reverse_reverse] at this
  intro R
  induction R with
  | nil => intro _; exact lookOk_start T least
  | cons p R ih =>
    rw [List.reverse_cons]
    intro h
    rw [looks_snoc]
    refine lookOk_step (ih h.init) (h.text p (by simp)) (h.lt p (by simp)) fun q hq => ?_
    have := List.pairwise_append.1 h.ord
    exact this.2.2 q hq p (by simp)
end
end Kl
end
section
set_option linter.unusedVariables false
set_option linter.unusedSectionVars false
namespace Kl
section
variable {α : Type} [DecidableEq α]

/-- the hashes of all runs of k words -/
def grams (gh : List α → Int) (k : Nat) (W : List α) : List Int := if W.length < k then [] else (List.range (W.length - k + 1)).map fun i => gh ((W.drop i).take k)

theorem grams_length (gh : List α → Int) {k : Nat} {W : List α} (hk : k ≤ W.length) : (grams gh k W).length = W.length - k + 1 := by
  unfold grams; rw [if_neg (by omega)]; simp
theorem grams_short (gh : List α → Int) {k : Nat} {W : List α} (hk : W.length < k) : grams gh k W = [] := if_pos hk
theorem grams_get (gh : List α → Int) {k : Nat} {W : List α} {i : Nat} (hi : i + k ≤ W.length) : (grams gh k W).getD i 0 = gh ((W.drop i).take k) := by
  unfold grams
  rw [if_neg (by omega), List.getD_eq_getElem?_getD, List.getElem?_map, List.getElem?_range (by omega)]; rfl
theorem grams_le (gh : List α → Int) {k : Nat} (hk : 0 < k) {W : List α} : (grams gh k W).length ≤ W.length := by
  unfold grams; split
  · simp
  · simp; omega
theorem grams_lt (gh : List α → Int) {k : Nat} (hk : 0 < k) {W : List α} {m : Nat} (hm : m < (grams gh k W).length) : m + k ≤ W.length := by
  rcases Nat.lt_or_ge W.length k with g | g
  · rw [grams_short gh g] at hm; simp at hm
  · rw [grams_length gh g] at hm; omega

/-- the fingerprints: a hash and a place -/
def prints (gh : List α → Int) (k w : Nat) (W : List α) : List (Int × Nat) := (select (grams gh k W) w).map fun a => ((grams gh k W).getD a 0, a)

theorem prints_rising (gh : List α → Int) (k : Nat) {w : Nat} (hw : 0 < w) (W : List α) : (prints gh k w W).Pairwise fun p q => p.2 < q.2 := by
  unfold prints
  rw [List.pairwise_map]
  exact (select_ok _ hw).rising
theorem prints_mem {gh : List α → Int} {k w : Nat} {W : List α} {p : Int × Nat} : p ∈ prints gh k w W ↔ p.2 ∈ select (grams gh k W) w ∧ p.1 = (grams gh k W).getD p.2 0 := by
  unfold prints
  rw [List.mem_map]
  constructor
  · rintro ⟨a, ha, rfl⟩; exact ⟨ha, rfl⟩
  · rintro ⟨h1, h2⟩; exact ⟨p.2, h1, by rw [← h2]⟩
theorem prints_lt {gh : List α → Int} {k w : Nat} (hk : 0 < k) (hw : 0 < w) {W : List α} {p : Int × Nat} (h : p ∈ prints gh k w W) : p.2 + k ≤ W.length :=
  grams_lt gh hk ((select_ok _ hw).lt _ (prints_mem.1 h).1)
theorem select_length (l : List Int) {w : Nat} (hw : 0 < w) : (select l w).length ≤ l.length := by
  have h := select_ok l hw
  have h2 : (select l w).Nodup := h.rising.imp fun h => Nat.ne_of_lt h
  have h3 := List.Nodup.length_le_of_subset h2 (l₂ := List.range l.length) (fun m hm => by have := h.lt m hm; simpa using this)
  simpa using h3
theorem prints_length (gh : List α → Int) {k w : Nat} (hk : 0 < k) (hw : 0 < w) (W : List α) : (prints gh k w W).length ≤ W.length := by
  have h1 := select_length (grams gh k W) hw
  have h2 := grams_le gh hk (W := W)
  unfold prints; rw [List.length_map]; omega

/-- the places of a hash among the first n texts -/
def placesIn (pr : Nat → List (Int × Nat)) (h : Int) (i : Nat) (l : List (Int × Nat)) : List Plc := (l.filter fun q => decide (q.1 = h)).map fun q => ⟨i, q.2⟩
def places (pr : Nat → List (Int × Nat)) (n : Nat) (h : Int) : List Plc := (List.range n).flatMap fun i => placesIn pr h i (pr i)

theorem mem_places {pr : Nat → List (Int × Nat)} {n : Nat} {h : Int} {y : Plc} : y ∈ places pr n h ↔ y.text < n ∧ (h, y.at_) ∈ pr y.text := by
  unfold places placesIn
  simp only [List.mem_flatMap, List.mem_range, List.mem_map, List.mem_filter, decide_eq_true_eq]
  constructor
  · rintro ⟨i, hi, q, ⟨hq, rfl⟩, rfl⟩; exact ⟨hi, hq⟩
  · rintro ⟨h1, h2⟩; exact ⟨y.text, h1, (h, y.at_), ⟨h2, rfl⟩, rfl⟩

/-- the pairs that are looked at: of one print; of one text; of all -/
def pairs1 (Q : Int → List Plc) (i : Nat) (p : Int × Nat) : List (Plc × Plc) := ((Q p.1).filter fun y => decide ((⟨i, p.2⟩ : Plc).lt y)).map fun y => (⟨i, p.2⟩, y)
def pairsT (Q : Int → List Plc) (i : Nat) (l : List (Int × Nat)) : List (Plc × Plc) := l.flatMap (pairs1 Q i)
def pairsN (pr : Nat → List (Int × Nat)) (Q : Int → List Plc) (n : Nat) : List (Plc × Plc) := (List.range n).flatMap fun i => pairsT Q i (pr i)

theorem mem_pairs1 {Q : Int → List Plc} {i : Nat} {p : Int × Nat} {z : Plc × Plc} : z ∈ pairs1 Q i p ↔ z.1 = ⟨i, p.2⟩ ∧ z.2 ∈ Q p.1 ∧ z.1.lt z.2 := by
  unfold pairs1
  simp only [List.mem_map, List.mem_filter, decide_eq_true_eq]
  constructor
  · rintro ⟨y, ⟨h1, h2⟩, rfl⟩; exact ⟨rfl, h1, h2⟩
  · rintro ⟨h1, h2, h3⟩; exact ⟨z.2, ⟨h2, h1 ▸ h3⟩, by rw [← h1]⟩
theorem mem_pairsN {pr : Nat → List (Int × Nat)} {Q : Int → List Plc} {n : Nat} {z : Plc × Plc} : z ∈ pairsN pr Q n ↔ ∃ h, z.1.text < n ∧ (h, z.1.at_) ∈ pr z.1.text ∧ z.2 ∈ Q h ∧ z.1.lt z.2 := by
  unfold pairsN pairsT
  simp only [List.mem_flatMap, List.mem_range]
  constructor
  · rintro ⟨i, hi, p, hp, hz⟩
    obtain ⟨h1, h2, h3⟩ := mem_pairs1.1 hz
    refine ⟨p.1, ?_, ?_, h2, h3⟩
    · rw [h1]; exact hi
    · rw [h1]; exact hp
  · rintro ⟨h, h1, h2, h3, h4⟩
    exact ⟨z.1.text, h1, (h, z.1.at_), h2, mem_pairs1.2 ⟨rfl, h3, h4⟩⟩

theorem pairs_ok {T : List (List α)} {pr : Nat → List (Int × Nat)} (hpr : ∀ i, i < T.length → (pr i).Pairwise fun p q => p.2 < q.2) : PairsOk T (pairsN pr (places pr T.length) T.length) := by
  refine ⟨fun p hp => ?_, fun p hp => ?_, ?_⟩
  · obtain ⟨h, _, _, h3, _⟩ := mem_pairsN.1 hp
    exact (mem_places.1 h3).1
  · obtain ⟨h, _, _, _, h4⟩ := mem_pairsN.1 hp
    exact h4
  · unfold pairsN
    rw [List.pairwise_flatMap]
    refine ⟨fun i hi => ?_, ?_⟩
    · unfold pairsT
      rw [List.pairwise_flatMap]
      refine ⟨fun p hp => ?_, ?_⟩
      · refine List.Pairwise.imp_of_mem (R := fun _ _ => True) ?_ (List.pairwise_of_forall (fun _ _ => trivial))
        intro a b ha hb _ _
        rw [(mem_pairs1.1 ha).1, (mem_pairs1.1 hb).1]; exact Nat.le_refl _
      · refine (hpr i (by simpa using hi)).imp ?_
        intro p q hpq x hx y hy _
        rw [(mem_pairs1.1 hx).1, (mem_pairs1.1 hy).1]
        exact Nat.le_of_lt hpq
    · refine List.pairwise_lt_range.imp ?_
      intro i j hij x hx y hy e
      exfalso
      unfold pairsT at hx hy
      obtain ⟨p, _, hx⟩ := List.mem_flatMap.1 hx
      obtain ⟨q, _, hy⟩ := List.mem_flatMap.1 hy
      rw [(mem_pairs1.1 hx).1, (mem_pairs1.1 hy).1] at e
      simp only at e
      omega

theorem window_eq {a b : List α} {i j k : Nat} (h : ∀ t, t < k → Same a (i + t) b (j + t)) : (a.drop i).take k = (b.drop j).take k := by
  apply List.ext_getElem?
  intro t
  rw [List.getElem?_take, List.getElem?_take]
  by_cases g : t < k
  · rw [if_pos g, if_pos g, List.getElem?_drop, List.getElem?_drop]; exact (h t g).2.2
  · rw [if_neg g, if_neg g]

/-- all that the finder has found behind all pairs -/
def foundAll (gh : List α → Int) (k w : Nat) (T : List (List α)) : Fin :=
  looks T (k + w - 1) (pairsN (fun i => prints gh k w (T.getD i [])) (places (fun i => prints gh k w (T.getD i [])) T.length) T.length)

theorem found_iff (gh : List α → Int) {k w : Nat} (hk : 0 < k) (hw : 0 < w) (T : List (List α)) (c : Cl) : (foundAll gh k w T).found c ≠ none ↔ IsClone T (k + w - 1) c := by
  have hok := looks_ok (least := k + w - 1) _ (pairs_ok (T := T) (pr := fun i => prints gh k w (T.getD i [])) fun i _ => prints_rising gh k hw _)
  refine ⟨fun h => hok.sound c h, fun hc => ?_⟩
  have hlen := hc.least
  have hA := hc.same (c.Len - 1) (by have := hc.pos; omega)
  have hAl := hA.1
  have hBl := hA.2.1
  have hpos := hc.pos
  have hsA := select_ok (grams gh k (T.getD c.A [])) hw
  have hsB := select_ok (grams gh k (T.getD c.B [])) hw
  obtain ⟨m1, h1, r1⟩ := hsA.hit c.AtA (by rw [grams_length gh (by omega)]; omega)
  obtain ⟨m2, h2, r2⟩ := hsB.hit c.AtB (by rw [grams_length gh (by omega)]; omega)
  obtain ⟨o, rfl⟩ : ∃ o, m1 = c.AtA + o := ⟨m1 - c.AtA, by have := r1.1; omega⟩
  have ho : o < w := by have := r1.2.1; omega
  have hg : ∀ t, t < w → (grams gh k (T.getD c.A [])).getD (c.AtA + t) 0 = (grams gh k (T.getD c.B [])).getD (c.AtB + t) 0 := by
    intro t ht
    rw [grams_get gh (by omega), grams_get gh (by omega), window_eq (b := T.getD c.B []) (j := c.AtB + t)]
    intro u hu
    have := hc.same (t + u) (by omega)
    rwa [← Nat.add_assoc, ← Nat.add_assoc] at this
  have r3 : IsRm (grams gh k (T.getD c.B [])) c.AtB w (c.AtB + o) := r1.move hg
  obtain rfl := r2.unique r3
  have hAT : c.A < T.length := by
    rcases Nat.lt_or_ge c.A T.length with g | g
    · exact g
    · exfalso
      rw [List.getD_eq_getElem?_getD, List.getElem?_eq_none g] at hAl
      simp at hAl
  have hp : ((⟨c.A, c.AtA + o⟩, ⟨c.B, c.AtB + o⟩) : Plc × Plc) ∈ pairsN (fun i => prints gh k w (T.getD i [])) (places (fun i => prints gh k w (T.getD i [])) T.length) T.length := by
    refine mem_pairsN.2 ⟨(grams gh k (T.getD c.A [])).getD (c.AtA + o) 0, hAT, prints_mem.2 ⟨h1, rfl⟩, mem_places.2 ⟨hc.bT, prints_mem.2 ⟨h2, hg o ho⟩⟩, ?_⟩
    rcases hc.ord with g | ⟨g1, g2⟩
    · exact .inl g
    · exact .inr ⟨g1, by simp only; omega⟩
  have hrun := run_unique hc (x := ⟨c.A, c.AtA + o⟩) (y := ⟨c.B, c.AtB + o⟩) rfl rfl (o := o) (by omega) rfl rfl
  have := hok.full _ hp (hc.same o (by omega)) (by rw [hrun]; exact hc.least)
  simp only [hrun] at this
  exact this
end

/-! ### the order of clones -/
def Cl.before (a b : Cl) : Prop := a.A < b.A ∨ a.A = b.A ∧ (a.AtA < b.AtA ∨ a.AtA = b.AtA ∧ (a.B < b.B ∨ a.B = b.B ∧ a.AtB < b.AtB))
theorem Cl.before_asymm {a b : Cl} (h : a.before b) (h' : b.before a) : False := by unfold Cl.before at h h'; omega
theorem Cl.before_total {a b : Cl} : a.before b ∨ b.before a ∨ (a.A = b.A ∧ a.AtA = b.AtA ∧ a.B = b.B ∧ a.AtB = b.AtB) := by unfold Cl.before; omega

/-- two lists in order with the same members are one -/
theorem ordered_ext {β : Type} {R : β → β → Prop} (hR : ∀ a b, R a b → R b a → False) : ∀ {a b : List β}, a.Pairwise R → b.Pairwise R → (∀ x, x ∈ a ↔ x ∈ b) → a = b
  | [], [], _, _, _ => rfl
  | [], y :: b, _, _, h => absurd ((h y).2 (by simp)) (by simp)
  | x :: a, [], _, _, h => absurd ((h x).1 (by simp)) (by simp)
  | x :: a, y :: b, ha, hb, h => by
    rw [List.pairwise_cons] at ha hb
    have e : x = y := by
      rcases List.mem_cons.1 ((h x).1 (by simp)) with g | g
      · exact g
      · rcases List.mem_cons.1 ((h y).2 (by simp)) with g' | g'
        · exact g'.symm
        · exact (hR _ _ (ha.1 y g') (hb.1 x g)).elim
    subst e
    rw [ordered_ext hR ha.2 hb.2 (fun z => ?_)]
    constructor
    · intro hz
      rcases List.mem_cons.1 ((h z).1 (List.mem_cons_of_mem _ hz)) with g | g
      · subst g; exact (hR _ _ (ha.1 z hz) (ha.1 z hz)).elim
      · exact g
    · intro hz
      rcases List.mem_cons.1 ((h z).2 (List.mem_cons_of_mem _ hz)) with g | g
      · subst g; exact (hR _ _ (hb.1 z hz) (hb.1 z hz)).elim
      · exact g

/-- the clones of texts, in order -/
def Clones {α : Type} (T : List (List α)) (least : Nat) (L : List Cl) : Prop := L.Pairwise Cl.before ∧ ∀ c, c ∈ L ↔ IsClone T least c

theorem Clones.unique {α : Type} {T : List (List α)} {least : Nat} {L L' : List Cl} (h : Clones T least L) (h' : Clones T least L') : L = L' :=
  ordered_ext (fun _ _ => Cl.before_asymm) h.1 h'.1 fun c => (h.2 c).trans (h'.2 c).symm

/-- what the sort leaves: a list without doubles that is sorted by the four numbers -/
theorem clones_sorted {α : Type} [DecidableEq α] {T : List (List α)} {least : Nat} {L : List Cl} (hn : L.Nodup) (hm : ∀ c, c ∈ L ↔ IsClone T least c) (hs : L.Pairwise fun a b => ¬ b.before a) : Clones T least L := by
  refine ⟨?_, hm⟩
  refine List.Pairwise.imp_of_mem ?_ (List.Pairwise.and hn hs)
  intro a b ha hb h
  rcases Cl.before_total (a := a) (b := b) with g | g | ⟨g1, g2, g3, g4⟩
  · exact g
  · exact (h.2 g).elim
  · exact (h.1 (clone_key ((hm a).1 ha) ((hm b).1 hb) g1 g2 g3 g4)).elim
end Kl
end
section
set_option linter.unusedVariables false
namespace Kl

def prime : Int := 2305843009213693951
theorem prime_pos : (0 : Int) < prime := by decide

/-- the code of a word -/
def codeL (l : List UInt8) : Int := l.foldl (fun c b => ((257 * c) % prime + ((b.toNat : Int) + 1)) % prime) 0
def code (w : ByteArray) : Int := codeL w.data.toList
theorem codeL_snoc (l : List UInt8) (b : UInt8) : codeL (l ++ [b]) = ((257 * codeL l) % prime + ((b.toNat : Int) + 1)) % prime := by unfold codeL; rw [List.foldl_append]; rfl
theorem codeL_range (l : List UInt8) : 0 ≤ codeL l ∧ codeL l < prime := by
  suffices H : ∀ (r : List UInt8), 0 ≤ codeL r.reverse ∧ codeL r.reverse < prime by
    have := H l.reverse; rwa [List.reverse_reverse] at this
  intro r
  cases r with
  | nil => decide
  | cons b r => rw [List.reverse_cons, codeL_snoc]; exact ⟨Int.emod_nonneg _ (by decide), Int.emod_lt_of_pos _ prime_pos⟩
theorem code_range (w : ByteArray) : 0 ≤ code w ∧ code w < prime := codeL_range _

/-- the hash of words with one more -/
def push (h : Int) (w : ByteArray) : Int := ((1000003 * h) % prime + (code w + 1) % prime) % prime
theorem push_range (h : Int) (w : ByteArray) : 0 ≤ push h w ∧ push h w < prime := ⟨Int.emod_nonneg _ (by decide), Int.emod_lt_of_pos _ prime_pos⟩
theorem push_eq (h : Int) (w : ByteArray) : push h w = (1000003 * h + (code w + 1)) % prime := by unfold push; rw [← Int.add_emod]

def hashL (l : List ByteArray) : Int := l.foldl push 0
theorem hashL_snoc (l : List ByteArray) (w : ByteArray) : hashL (l ++ [w]) = push (hashL l) w := by unfold hashL; rw [List.foldl_append]; rfl
theorem hashL_range (l : List ByteArray) : 0 ≤ hashL l ∧ hashL l < prime := by
  suffices H : ∀ (r : List ByteArray), 0 ≤ hashL r.reverse ∧ hashL r.reverse < prime by
    have := H l.reverse; rwa [List.reverse_reverse] at this
  intro r
  cases r with
  | nil => decide
  | cons b r => rw [List.reverse_cons, hashL_snoc]; exact push_range _ _

/-- the same without the prime -/
def bigH (h : Int) (l : List ByteArray) : Int := l.foldl (fun h w => 1000003 * h + (code w + 1)) h
theorem bigH_snoc (h : Int) (l : List ByteArray) (w : ByteArray) : bigH h (l ++ [w]) = 1000003 * bigH h l + (code w + 1) := by unfold bigH; rw [List.foldl_append]; rfl
theorem bigH_from : ∀ (l : List ByteArray) (h : Int), bigH h l = h * 1000003 ^ l.length + bigH 0 l
  | [], h => by simp [bigH]
  | w :: l, h => by
    have h1 := bigH_from l (1000003 * h + (code w + 1))
    have h2 := bigH_from l (1000003 * 0 + (code w + 1))
    show bigH (1000003 * h + (code w + 1)) l = _ + bigH (1000003 * 0 + (code w + 1)) l
    rw [h1, h2, List.length_cons]
    generalize bigH 0 l = b
    rw [Int.pow_succ]
    generalize (1000003 : Int) ^ l.length = q
    generalize code w + 1 = c
    rw [Int.mul_zero, Int.zero_add, Int.add_mul, ← Int.add_assoc, Int.mul_comm 1000003 h, Int.mul_assoc h 1000003 q, Int.mul_comm 1000003 q]
theorem push_mod (h : Int) (w : ByteArray) : push (h % prime) w = push h w := by unfold push; rw [Int.mul_emod, Int.emod_emod_of_dvd h (Int.dvd_refl _), ← Int.mul_emod]
theorem hashL_big (l : List ByteArray) : hashL l = bigH 0 l % prime := by
  suffices H : ∀ (r : List ByteArray), hashL r.reverse = bigH 0 r.reverse % prime by
    have := H l.reverse; rwa [List.reverse_reverse] at this
  intro r
  induction r with
  | nil => decide
  | cons b r ih => rw [List.reverse_cons, hashL_snoc, bigH_snoc, ih, push_mod, push_eq]

def powS (n : Nat) : Int := 1000003 ^ n % prime
theorem powS_range (n : Nat) : 0 ≤ powS n ∧ powS n < prime := ⟨Int.emod_nonneg _ (by decide), Int.emod_lt_of_pos _ prime_pos⟩

def rollS (h : Int) (out inn : ByteArray) (top : Int) : Int := push ((h + (prime - ((code out + 1) % prime * top) % prime)) % prime) inn

theorem cancel_mod (a g : Int) : ((a + g) % prime + (prime - a % prime)) % prime = g % prime := by
  have h1 := Int.emod_add_mul_ediv (a + g) prime
  have h2 := Int.emod_add_mul_ediv a prime
  have e : (a + g) % prime + (prime - a % prime) = g + prime * (1 - (a + g) / prime + a / prime) := by
    rw [Int.mul_add, Int.mul_sub, Int.mul_one]; omega
  rw [e, Int.add_mul_emod_self_left]

theorem roll_hash (w v : ByteArray) (l : List ByteArray) : rollS (hashL (w :: l)) w v (powS l.length) = hashL (l ++ [v]) := by
  have h1 : hashL (w :: l) = ((code w + 1) * 1000003 ^ l.length + bigH 0 l) % prime := by
    rw [hashL_big]
    show bigH (1000003 * 0 + (code w + 1)) l % prime = _
    rw [bigH_from, Int.mul_zero, Int.zero_add]
  unfold rollS powS
  rw [h1, ← Int.mul_emod, cancel_mod, hashL_snoc, hashL_big]

theorem pow_mod (a : Int) : ∀ n : Nat, (a % prime) ^ n % prime = a ^ n % prime
  | 0 => by rw [Int.pow_zero, Int.pow_zero]
  | n + 1 => by rw [Int.pow_succ, Int.pow_succ, Int.mul_emod, pow_mod a n, Int.emod_emod_of_dvd a (Int.dvd_refl _), ← Int.mul_emod]
theorem sq_pow (a : Int) (n : Nat) : (a * a) ^ n = a ^ (2 * n) := by
  induction n with
  | zero => rw [Nat.mul_zero, Int.pow_zero, Int.pow_zero]
  | succ n ih => rw [Int.pow_succ, ih, show 2 * (n + 1) = 2 * n + 1 + 1 by omega, Int.pow_succ, Int.pow_succ, Int.mul_assoc]
theorem pow_even (o s : Int) (m : Nat) : (o * ((s * s) % prime) ^ m) % prime = (o * s ^ (2 * m)) % prime := by
  rw [Int.mul_emod, pow_mod, ← Int.mul_emod, sq_pow]
theorem pow_odd (o s : Int) (m : Nat) : (((o * s) % prime) * ((s * s) % prime) ^ m) % prime = (o * s ^ (2 * m + 1)) % prime := by
  rw [Int.mul_emod, pow_mod, Int.emod_emod_of_dvd (o * s) (Int.dvd_refl _), ← Int.mul_emod, sq_pow, Int.pow_succ, Int.mul_assoc, Int.mul_comm s]

theorem window_head {W : List ByteArray} {i k : Nat} (hi : i < W.length) (hk : 0 < k) : (W.drop i).take k = W.getD i ByteArray.empty :: (W.drop (i + 1)).take (k - 1) := by
  obtain ⟨k, rfl⟩ : ∃ j, k = j + 1 := ⟨k - 1, by omega⟩
  rw [List.drop_eq_getElem_cons hi, List.take_succ_cons]
  simp [List.getD, hi]
theorem window_last {W : List ByteArray} {i k : Nat} (hi : i + k < W.length) (hk : 0 < k) : (W.drop (i + 1)).take k = (W.drop (i + 1)).take (k - 1) ++ [W.getD (i + k) ByteArray.empty] := by
  obtain ⟨k, rfl⟩ : ∃ j, k = j + 1 := ⟨k - 1, by omega⟩
  rw [List.take_succ_eq_append_getElem (by simp; omega)]
  congr 1
  simp only [List.getElem_drop, List.getD_eq_getElem?_getD]
  rw [List.getElem?_eq_getElem (by omega)]
  simp only [Option.getD_some]
  congr 2
  omega

/-- the hash of the next run -/
theorem roll_next {W : List ByteArray} {i k : Nat} (hi : i + k < W.length) (hk : 0 < k) : rollS (hashL ((W.drop i).take k)) (W.getD i ByteArray.empty) (W.getD (i + k) ByteArray.empty) (powS (k - 1)) = hashL ((W.drop (i + 1)).take k) := by
  rw [window_head (by omega) hk, window_last hi hk]
  have h := roll_hash (W.getD i ByteArray.empty) (W.getD (i + k) ByteArray.empty) ((W.drop (i + 1)).take (k - 1))
  rwa [show ((W.drop (i + 1)).take (k - 1)).length = k - 1 by simp; omega] at h

abbrev gramsW (k : Nat) (W : List ByteArray) : List Int := grams hashL k W
abbrev printsW (k w : Nat) (W : List ByteArray) : List (Int × Nat) := prints hashL k w W

theorem grams_snoc {W : List ByteArray} {k i : Nat} (hi : i + k < W.length) : (List.range (i + 1 + 1)).map (fun j => hashL ((W.drop j).take k)) = (List.range (i + 1)).map (fun j => hashL ((W.drop j).take k)) ++ [hashL ((W.drop (i + 1)).take k)] := by
  rw [List.range_succ, List.map_append]; rfl
end Kl
end
section
set_option linter.unusedSectionVars false
set_option linter.unusedSimpArgs false
set_option linter.unusedVariables false
namespace Kl
section
variable {pr : Nat → List (Int × Nat)} {Q : Int → List Plc}
theorem places_zero (h : Int) : places pr 0 h = [] := rfl
theorem places_succ (n : Nat) (h : Int) : places pr (n + 1) h = places pr n h ++ placesIn pr h n (pr n) := by
  unfold places
  rw [List.range_succ, List.flatMap_append]
  simp
theorem placesIn_nil (h : Int) (i : Nat) : placesIn pr h i [] = [] := rfl
theorem placesIn_snoc (h : Int) (i : Nat) (l : List (Int × Nat)) (q : Int × Nat) : placesIn pr h i (l ++ [q]) = if h = q.1 then placesIn pr h i l ++ [⟨i, q.2⟩] else placesIn pr h i l := by
  unfold placesIn
  rw [List.filter_append, List.map_append]
  by_cases g : h = q.1
  · rw [if_pos g]; simp [g]
  · rw [if_neg g]
    have : ¬ q.1 = h := fun e => g e.symm
    simp [this]
theorem placesIn_length (h : Int) (i : Nat) (l : List (Int × Nat)) : (placesIn pr h i l).length ≤ l.length := by
  unfold placesIn; rw [List.length_map]; exact List.length_filter_le _ _
theorem places_length {B : Nat} : ∀ (n : Nat), (∀ i, i < n → (pr i).length ≤ B) → ∀ h, (places pr n h).length ≤ n * B
  | 0, _, h => by simp [places_zero]
  | n + 1, hB, h => by
    rw [places_succ, List.length_append]
    have h1 := places_length n (fun i hi => hB i (by omega)) h
    have h2 := placesIn_length (pr := pr) h n (pr n)
    have h3 := hB n (by omega)
    rw [Nat.add_mul]; omega

/-- the places, when the texts below i and m fingerprints of the text i have been put down -/
def placesTo (pr : Nat → List (Int × Nat)) (i m : Nat) (h : Int) : List Plc := places pr i h ++ placesIn pr h i ((pr i).take m)
theorem placesTo_zero : placesTo pr 0 0 = fun _ => [] := by funext h; simp [placesTo, places_zero, placesIn_nil]
theorem placesTo_step {i m : Nat} (hm : m < (pr i).length) (h : Int) : placesTo pr i (m + 1) h = if h = ((pr i)[m]).1 then placesTo pr i m h ++ [⟨i, ((pr i)[m]).2⟩] else placesTo pr i m h := by
  unfold placesTo
  rw [List.take_add_one, List.getElem?_eq_getElem hm, Option.toList, placesIn_snoc]
  by_cases g : h = ((pr i)[m]).1
  · rw [if_pos g, if_pos g, List.append_assoc]
  · rw [if_neg g, if_neg g]
theorem placesTo_end {i m : Nat} (hm : m = (pr i).length) : placesTo pr i m = placesTo pr (i + 1) 0 := by
  funext h
  unfold placesTo
  rw [List.take_zero, placesIn_nil, List.append_nil, places_succ, List.take_of_length_le (by omega)]
theorem placesTo_all {i : Nat} : placesTo pr i 0 = places pr i := by
  funext h; simp [placesTo, placesIn_nil]
theorem placesTo_length {B i m : Nat} (hB : ∀ j, j ≤ i → (pr j).length ≤ B) (h : Int) : (placesTo pr i m h).length ≤ (i + 1) * B := by
  unfold placesTo
  rw [List.length_append]
  have h1 := places_length (pr := pr) (B := B) i (fun j hj => hB j (by omega)) h
  have h2 := placesIn_length (pr := pr) h i ((pr i).take m)
  have h3 := hB i (Nat.le_refl _)
  rw [List.length_take] at h2
  rw [Nat.add_mul]; omega

/-- the pairs that have been looked at, when the texts below i, m fingerprints of the text i and j places of the next one are done -/
def pairsTo (pr : Nat → List (Int × Nat)) (Q : Int → List Plc) (i m j : Nat) : List (Plc × Plc) :=
  pairsN pr Q i ++ pairsT Q i ((pr i).take m) ++ pairs1 (fun h => (Q h).take j) i ((pr i).getD m (0, 0))
theorem pairsN_zero : pairsN pr Q 0 = [] := rfl
theorem pairsN_succ (n : Nat) : pairsN pr Q (n + 1) = pairsN pr Q n ++ pairsT Q n (pr n) := by
  unfold pairsN
  rw [List.range_succ, List.flatMap_append]
  simp
theorem pairsT_nil (i : Nat) : pairsT Q i [] = [] := rfl
theorem pairsT_snoc (i : Nat) (l : List (Int × Nat)) (p : Int × Nat) : pairsT Q i (l ++ [p]) = pairsT Q i l ++ pairs1 Q i p := by
  unfold pairsT; rw [List.flatMap_append]; simp
theorem pairs1_zero (i : Nat) (p : Int × Nat) : pairs1 (fun h => (Q h).take 0) i p = [] := by simp [pairs1]
theorem pairs1_step {i j : Nat} {p : Int × Nat} (hj : j < (Q p.1).length) :
    pairs1 (fun h => (Q h).take (j + 1)) i p = if (⟨i, p.2⟩ : Plc).lt (Q p.1)[j] then pairs1 (fun h => (Q h).take j) i p ++ [(⟨i, p.2⟩, (Q p.1)[j])] else pairs1 (fun h => (Q h).take j) i p := by
  unfold pairs1
  simp only
  rw [List.take_add_one, List.getElem?_eq_getElem hj, Option.toList, List.filter_append, List.map_append]
  by_cases g : (⟨i, p.2⟩ : Plc).lt (Q p.1)[j]
  · rw [if_pos g]; simp [g]
  · rw [if_neg g]; simp [g]
theorem pairs1_all {i j : Nat} {p : Int × Nat} (hj : (Q p.1).length ≤ j) : pairs1 (fun h => (Q h).take j) i p = pairs1 Q i p := by
  unfold pairs1
  simp only
  rw [List.take_of_length_le hj]
theorem pairsTo_zero : pairsTo pr Q 0 0 0 = [] := by unfold pairsTo; rw [pairs1_zero, pairsN_zero, List.take_zero, pairsT_nil]; rfl
theorem pairsTo_step {i m j : Nat} (hm : m < (pr i).length) (hj : j < (Q (pr i)[m].1).length) :
    pairsTo pr Q i m (j + 1) = if (⟨i, (pr i)[m].2⟩ : Plc).lt (Q (pr i)[m].1)[j] then pairsTo pr Q i m j ++ [(⟨i, (pr i)[m].2⟩, (Q (pr i)[m].1)[j])] else pairsTo pr Q i m j := by
  have e : (pr i).getD m (0, 0) = (pr i)[m] := by rw [List.getD_eq_getElem?_getD, List.getElem?_eq_getElem hm]; rfl
  unfold pairsTo
  rw [e, pairs1_step hj]
  by_cases g : (⟨i, (pr i)[m].2⟩ : Plc).lt (Q (pr i)[m].1)[j]
  · rw [if_pos g, if_pos g, List.append_assoc, List.append_assoc, List.append_assoc]
  · rw [if_neg g, if_neg g]
theorem pairsTo_next {i m j : Nat} (hm : m < (pr i).length) (hj : (Q (pr i)[m].1).length ≤ j) : pairsTo pr Q i m j = pairsTo pr Q i (m + 1) 0 := by
  have e : (pr i).getD m (0, 0) = (pr i)[m] := by rw [List.getD_eq_getElem?_getD, List.getElem?_eq_getElem hm]; rfl
  unfold pairsTo
  rw [e, pairs1_all hj, pairs1_zero, List.append_nil, List.take_add_one, List.getElem?_eq_getElem hm, Option.toList, pairsT_snoc, List.append_assoc]
theorem pairsTo_end {i m : Nat} (hm : (pr i).length ≤ m) : pairsTo pr Q i m 0 = pairsTo pr Q (i + 1) 0 0 := by
  unfold pairsTo
  rw [pairs1_zero, pairs1_zero, List.append_nil, List.append_nil, List.take_zero, pairsT_nil, List.append_nil, pairsN_succ, List.take_of_length_le hm]
theorem pairsTo_all {i : Nat} : pairsTo pr Q i 0 0 = pairsN pr Q i := by
  unfold pairsTo
  rw [pairs1_zero, List.append_nil, List.take_zero, pairsT_nil, List.append_nil]
theorem pairsN_prefix : ∀ {n i : Nat}, i ≤ n → ∃ R, pairsN pr Q n = pairsN pr Q i ++ R
  | 0, i, h => ⟨[], by obtain rfl : i = 0 := by omega
                       simp⟩
  | n + 1, i, h => by
    by_cases g : i = n + 1
    · exact ⟨[], by rw [g]; simp⟩
    · obtain ⟨R, hR⟩ := pairsN_prefix (n := n) (i := i) (by omega)
      exact ⟨R ++ pairsT Q n (pr n), by rw [pairsN_succ, hR, List.append_assoc]⟩
theorem pairsTo_prefix {n i m j : Nat} (hi : i < n) (hm : m < (pr i).length) : ∃ R, pairsN pr Q n = pairsTo pr Q i m j ++ R := by
  obtain ⟨R, hR⟩ := pairsN_prefix (pr := pr) (Q := Q) (show i + 1 ≤ n by omega)
  have e : (pr i).getD m (0, 0) = (pr i)[m] := by rw [List.getD_eq_getElem?_getD, List.getElem?_eq_getElem hm]; rfl
  have h1 : ∃ R1, pairs1 Q i (pr i)[m] = pairs1 (fun h => (Q h).take j) i (pr i)[m] ++ R1 := by
    unfold pairs1
    simp only
    refine ⟨(((Q (pr i)[m].1).drop j).filter fun y => decide ((⟨i, (pr i)[m].2⟩ : Plc).lt y)).map fun y => (⟨i, (pr i)[m].2⟩, y), ?_⟩
    rw [← List.map_append, ← List.filter_append, List.take_append_drop]
  obtain ⟨R1, h1⟩ := h1
  have h2 : pairsT Q i (pr i) = pairsT Q i ((pr i).take m) ++ pairs1 Q i (pr i)[m] ++ pairsT Q i ((pr i).drop (m + 1)) := by
    unfold pairsT
    conv => lhs; rw [← List.take_append_drop m (pr i), List.drop_eq_getElem_cons hm]
    rw [List.flatMap_append, List.flatMap_cons, List.append_assoc]
  refine ⟨R1 ++ pairsT Q i ((pr i).drop (m + 1)) ++ R, ?_⟩
  unfold pairsTo
  rw [hR, pairsN_succ, h2, h1, e]
  simp only [List.append_assoc]
end
section
variable {α : Type} [DecidableEq α] {T : List (List α)} {least : Nat}
theorem look_mono (S : Fin) (p : Plc × Plc) {c : Cl} (h : S.found c ≠ none) : (look T least S p).found c ≠ none := by
  unfold look
  split
  · exact h
  · simp only
    split
    · simp
    · exact h
theorem looks_mono (P R : List (Plc × Plc)) {c : Cl} (h : (looks T least P).found c ≠ none) : (looks T least (P ++ R)).found c ≠ none := by
  induction R generalizing P with
  | nil => simpa using h
  | cons p R ih =>
    rw [show P ++ p :: R = (P ++ [p]) ++ R from by simp]
    exact ih (P ++ [p]) (by rw [looks_snoc]; exact look_mono _ _ h)
theorem length_le_of_nodup {β : Type} [DecidableEq β] : ∀ {D L : List β}, D.Nodup → (∀ x, x ∈ D → x ∈ L) → D.length ≤ L.length
  | [], _, _, _ => Nat.zero_le _
  | x :: D, L, hn, hs => by
    rw [List.nodup_cons] at hn
    have h1 := length_le_of_nodup (D := D) (L := L.erase x) hn.2 (fun y hy => (List.mem_erase_of_ne (fun (e : y = x) => hn.1 (e ▸ hy))).2 (hs y (List.mem_cons_of_mem _ hy)))
    have h2 := List.length_erase_of_mem (hs x List.mem_cons_self)
    have h3 := List.length_pos_of_mem (hs x List.mem_cons_self)
    rw [List.length_cons]; omega
theorem found_finite : ∀ (P : List (Plc × Plc)) (S : Fin), (∃ D : List Cl, D.Nodup ∧ ∀ c, c ∈ D ↔ S.found c ≠ none) → ∃ D : List Cl, D.Nodup ∧ ∀ c, c ∈ D ↔ (P.foldl (look T least) S).found c ≠ none
  | [], _, h => h
  | p :: P, S, ⟨D, hn, hm⟩ => by
    refine found_finite P (look T least S p) ?_
    by_cases h1 : p.1.at_ < (S.seen (diag p.1 p.2)).getD 0
    · exact ⟨D, hn, fun c => by unfold look; rw [if_pos h1]; exact hm c⟩
    · by_cases h2 : least ≤ (runAt T p.1 p.2).Len ∧ 0 < toOf T p.1 p.2
      · by_cases h3 : runAt T p.1 p.2 ∈ D
        · refine ⟨D, hn, fun c => ?_⟩
          unfold look
          rw [if_neg h1]
          simp only
          by_cases g : c = runAt T p.1 p.2
          · rw [if_pos ⟨h2.1, h2.2, g⟩]
            simp only [ne_eq, reduceCtorEq, not_false_eq_true, iff_true]
            rw [g]; exact h3
          · rw [if_neg (fun h => g h.2.2)]; exact hm c
        · refine ⟨runAt T p.1 p.2 :: D, List.nodup_cons.2 ⟨h3, hn⟩, fun c => ?_⟩
          unfold look
          rw [if_neg h1, List.mem_cons]
          simp only
          by_cases g : c = runAt T p.1 p.2
          · rw [if_pos ⟨h2.1, h2.2, g⟩]; simp [g]
          · rw [if_neg (fun h => g h.2.2)]; simp only [g, false_or]; exact hm c
      · refine ⟨D, hn, fun c => ?_⟩
        unfold look
        rw [if_neg h1]
        simp only
        rw [if_neg (fun h => h2 ⟨h.1, h.2.1⟩)]
        exact hm c
theorem looks_finite (P : List (Plc × Plc)) : ∃ D : List Cl, D.Nodup ∧ ∀ c, c ∈ D ↔ (looks T least P).found c ≠ none :=
  found_finite P Fin.start ⟨[], List.nodup_nil, fun c => by simp [Fin.start]⟩
instance (a b : Cl) : Decidable (a.before b) := by unfold Cl.before; exact inferInstance
/-- a list in order -/
theorem sorted_of {D : List Cl} (hn : D.Nodup) : ∃ L : List Cl, L.Nodup ∧ (∀ c, c ∈ L ↔ c ∈ D) ∧ L.Pairwise (fun a b => ¬ b.before a) := by
  refine ⟨D.mergeSort (fun a b => decide (¬ b.before a)), (List.mergeSort_perm _ _).nodup_iff.2 hn, fun c => (List.mergeSort_perm _ _).mem_iff, ?_⟩
  have := List.pairwise_mergeSort (le := fun a b : Cl => decide (¬ b.before a)) (by
    intro a b c h1 h2
    simp only [decide_eq_true_eq] at h1 h2 ⊢
    unfold Cl.before at h1 h2 ⊢
    omega) (by
    intro a b
    simp only [Bool.or_eq_true, decide_eq_true_eq]
    unfold Cl.before
    omega) D
  exact this.imp (fun h => by simpa using h)
end
section
variable {α : Type} [DecidableEq α]
theorem clones_of {T : List (List α)} {gh : List α → Int} {k w : Nat} (hk : 0 < k) (hw : 0 < w) {D : List Cl} (hn : D.Nodup) (hm : ∀ c, c ∈ D ↔ (foundAll gh k w T).found c ≠ none) :
    ∃ L, Clones T (k + w - 1) L ∧ L.Nodup ∧ ∀ c, c ∈ L ↔ c ∈ D := by
  obtain ⟨L, h1, h2, h3⟩ := sorted_of hn
  exact ⟨L, clones_sorted h1 (fun c => by rw [h2, hm, found_iff gh hk hw]) h3, h1, h2⟩
theorem clones_exist (gh : List α → Int) {k w : Nat} (hk : 0 < k) (hw : 0 < w) (T : List (List α)) : ∃ L, Clones T (k + w - 1) L := by
  obtain ⟨D, hn, hm⟩ := looks_finite (T := T) (least := k + w - 1) (pairsN (fun i => prints gh k w (T.getD i [])) (places (fun i => prints gh k w (T.getD i [])) T.length) T.length)
  obtain ⟨L, h, _⟩ := clones_of (gh := gh) hk hw hn hm
  exact ⟨L, h⟩
end
end Kl
end
