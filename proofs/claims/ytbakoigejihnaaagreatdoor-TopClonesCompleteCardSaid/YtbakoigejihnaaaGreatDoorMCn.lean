/- Places by hash, fingerprints by text, and the sort of clones, walked. Conditions: none. -/
import Derived.Test.YtbakoigejihnaaaGreatDoorMFi
import Derived.Test.YtbakoigejihnaaaGreatDoorMRD
import Derived.Test.YtbakoigejihnaaaGreatDoorMSh
import Derived.Deep.RegionHeld3
import Derived.Shelf.SlSortCmp.WholeK
section
set_option linter.unusedSectionVars false
set_option linter.unusedSimpArgs false
set_option linter.unusedVariables false
namespace Go.Proofs.YtbakoigejihnaaaGreatDoor.Wp
open Go.RowKit Go.MapG Go.MapKept Go.Proofs.YtbakoigejihnaaaGreatDoorW.PrintWords Go.Proofs.YtbakoigejihnaaaGreatDoorW.PrintLast Go.Proofs.YtbakoigejihnaaaGreatDoorW.PrintMore
open Kl (Diag Cl Plc)

abbrev TPl : TypeId := 115
abbrev TPr : TypeId := 88
abbrev TPs : TypeId := 74
abbrev Yes : Nat → Prop := fun _ => True
def kvI (n : Int) : Value := .int .i64 n
theorem keyI : KeyOk Tryz.prog 3 kvI := keyOk_int Tryz.underlying3
def plS (l : List Plc) : List (Int × Int) := l.map fun y => (((y.text : Nat) : Int), ((y.at_ : Nat) : Int))
theorem plS_length (l : List Plc) : (plS l).length = l.length := by simp [plS]
theorem plS_snoc (l : List Plc) (y : Plc) : plS (l ++ [y]) = plS l ++ [(((y.text : Nat) : Int), ((y.at_ : Nat) : Int))] := by simp [plS]
theorem plS_get (l : List Plc) {i : Nat} (hi : i < l.length) : (plS l).getD i (0, 0) = (((l[i].text : Nat) : Int), ((l[i].at_ : Nat) : Int)) := by
  unfold plS
  rw [List.getD_eq_getElem?_getD, List.getElem?_map, List.getElem?_eq_getElem hi]; rfl

section
variable {w w1 : World} {e base : Nat} {v : Value} {xs : List (Int × Int)} {X : Nat → Prop}
/-- the block of a row of pairs bears the row's type -/
theorem R_typed (h : Kd.R kPr e w base Yes v xs) {k : Nat} (hk : v.ownBlock = some k) : base ≤ k ∧ k < w.heap.size ∧ ∃ cells, w.heap[k]? = some (.cells cells e (0, 0)) := by
  obtain ⟨_, inner, ho, _⟩ := h
  exact ⟨own_base ho k hk, own_lt ho k hk, own_typed ho k hk⟩
theorem R_kept_own (h : Kd.R kPr e w base Yes v xs) (hk : Kept w w1 X) (hx : ∀ k, v.ownBlock = some k → ¬ X k) : Kd.R kPr e w1 base Yes v xs :=
  Kd.R_mono (Kd.R_kept (Kd.R_tight rfl h) hk (fun k e_ => hx k e_.symm)) (fun _ _ => trivial)
theorem R_kept_ty (h : Kd.R kPr e w base Yes v xs) (hk : Kept w w1 X) (hx : ∀ k cells, w.heap[k]? = some (.cells cells e (0, 0)) → ¬ X k) : Kd.R kPr e w1 base Yes v xs :=
  R_kept_own h hk fun k e_ => by obtain ⟨_, _, cells, hc⟩ := R_typed h e_; exact hx k cells hc
end

theorem kept_grown {w w1 : World} {row : Option Nat} (hg : w.grownBy w1 row) : Kept w w1 (fun k => row = some k) := ⟨hg.size, fun i hi hn => hg.block i hi (fun e => hn e.symm)⟩

/-- the places by hash: a map of slices -/
structure PlRep (w : World) (base bp : Nat) (Q : Int → List Plc) (vs : Int → Value) : Prop where
  map : HasMap kvI w bp (fun h => if Q h = [] then none else some (vs h))
  nil : ∀ h, Q h = [] → vs h = .slice none 0 0
  row : ∀ h, Kd.R kPr TPl w base Yes (vs h) (plS (Q h))
  apart : ∀ h h' k, h ≠ h' → (vs h).ownBlock = some k → (vs h').ownBlock ≠ some k

section
variable {w w1 : World} {base bp : Nat} {Q : Int → List Plc} {vs : Int → Value} {X : Nat → Prop}
theorem PlRep.kept (h : PlRep w base bp Q vs) (hk : Kept w w1 X) (hx : ∀ k cells, w.heap[k]? = some (.cells cells TPl (0, 0)) → ¬ X k) (hb : ¬ X bp) : PlRep w1 base bp Q vs :=
  ⟨h.map.kept (hk.2 bp h.map.lt hb), h.nil, fun s => R_kept_ty (h.row s) hk hx, h.apart⟩
theorem PlRep.below (h : PlRep w base bp Q vs) (hb : Below w.heap.size w w1) : PlRep w1 base bp Q vs := h.kept (Kept.of_below hb (fun _ => False)) (fun _ _ _ h => h) (fun h => h)
theorem PlRep.look (h : PlRep w base bp Q vs) (s : Int) : (Instr.lookup 111 (.map (some bp)) (.int .i64 s) false).run Tryz.prog w = .ok (vs s) w := by
  have hz : ∀ w, (zeroValue 113).run Tryz.prog w = .ok (.slice none 0 0) w := fun w => by kernel_rfl
  have := h.map.look (P := Tryz.prog) Tryz.underlying111 keyI hz s
  have e : (Instr.lookup 111 (.map (some bp)) (kvI s) false).run Tryz.prog w = .ok (vs s) w := by
    rw [this]
    by_cases g : Q s = []
    · rw [if_pos g, h.nil s g]; rfl
    · rw [if_neg g]; rfl
  exact e
/-- a place is put to its hash: behind the append -/
theorem PlRep.push (h : PlRep w base bp Q vs) {s : Int} {y : Plc} {v1 : Value} (hg : w.grownBy w1 (vs s).ownBlock) (hr : Kd.R kPr TPl w1 base Yes v1 (plS (Q s) ++ [(((y.text : Nat) : Int), ((y.at_ : Nat) : Int))]))
    (hat : v1.ownBlock = (vs s).ownBlock ∨ ∃ b, v1.ownBlock = some b ∧ w.heap.size ≤ b) :
    ∃ w2, (Instr.mapUpdate 111 (.map (some bp)) (.int .i64 s) v1).run Tryz.prog w1 = .ok () w2 ∧ w1.grownBy w2 (some bp) ∧
      PlRep w2 base bp (fun h => if h = s then Q s ++ [y] else Q h) (fun h => if h = s then v1 else vs h) := by
  have hbp : (vs s).ownBlock ≠ some bp := fun e => by
    obtain ⟨_, _, cells, hc⟩ := R_typed (h.row s) e
    obtain ⟨_, _, hm, _⟩ := h.map
    rw [hc] at hm; cases hm
  have hm1 : HasMap kvI w1 bp _ := h.map.kept (hg.block bp h.map.lt (fun e => hbp e.symm))
  obtain ⟨w2, hrun, hm2, hg2⟩ := hm1.store (P := Tryz.prog) Tryz.underlying111 keyI s v1
  have cells_ne : ∀ k cells, w1.heap[k]? = some (.cells cells TPl (0, 0)) → ¬ (some bp = some k) := fun k cells hc e => by
    injection e with e
    subst e
    obtain ⟨_, _, hm, _⟩ := hm1
    rw [hc] at hm; cases hm
  refine ⟨w2, hrun, hg2, ?_, ?_, ?_, ?_⟩
  · refine cast (congrArg (HasMap kvI w2 bp) (funext fun d => ?_)) hm2
    by_cases g : d = s
    · simp [g]
    · simp [g]
  · intro d hd
    by_cases g : d = s
    · rw [if_pos g] at hd; simp at hd
    · simp only [if_neg g] at hd ⊢; exact h.nil d hd
  · intro d
    by_cases g : d = s
    · simp only [if_pos g]
      rw [plS_snoc]
      exact R_kept_ty hr (kept_grown hg2) cells_ne
    · simp only [if_neg g]
      have h1 : Kd.R kPr TPl w1 base Yes (vs d) (plS (Q d)) := R_kept_own (h.row d) (kept_grown hg) (fun k e1 e2 => h.apart d s k g e1 e2)
      exact R_kept_ty h1 (kept_grown hg2) cells_ne
  · intro d d' k hne h1 h2
    have new_ne : ∀ c k, c ≠ s → (vs c).ownBlock = some k → v1.ownBlock ≠ some k := fun c k hc e1 e2 => by
      rcases hat with e3 | ⟨b, e3, hb⟩
      · exact h.apart c s k hc e1 (e3.symm.trans e2)
      · rw [e3] at e2
        injection e2 with e2
        subst e2
        have := (R_typed (h.row c) e1).2.1
        omega
    by_cases g : d = s
    · by_cases g' : d' = s
      · exact hne (g.trans g'.symm)
      · simp only [if_pos g] at h1
        simp only [if_neg g'] at h2
        exact new_ne d' k g' h2 h1
    · simp only [if_neg g] at h1
      by_cases g' : d' = s
      · simp only [if_pos g'] at h2
        exact new_ne d k g h1 h2
      · simp only [if_neg g'] at h2
        exact h.apart d d' k hne h1 h2
theorem PlRep.new {bp : Nat} (h : w.heap[bp]? = some (.map #[] 0)) : PlRep w base bp (fun _ => []) (fun _ => .slice none 0 0) :=
  ⟨HasMap.new w w h, fun _ _ => rfl, fun _ => Kd.R_nil kPr _ _ _ _, fun _ _ _ _ h => by simp [Value.ownBlock] at h⟩
end

/-- the fingerprints of the first i texts: a slice of slices -/
structure PrRep (w : World) (base bl : Nat) (arr : Array Value) (n i : Nat) (PS : Nat → List (Int × Int)) : Prop where
  head : w.heap[bl]? = some (.cells arr TPs (0, 0))
  size : arr.size = n
  row : ∀ j, j < i → ∃ A c, arr[j]? = some (.slice A (PS j).length c) ∧ Kd.R kPr TPr w base Yes (.slice A (PS j).length c) (PS j)

section
variable {w w1 : World} {base bl n i : Nat} {arr : Array Value} {PS : Nat → List (Int × Int)} {X : Nat → Prop}
theorem PrRep.kept (h : PrRep w base bl arr n i PS) (hk : Kept w w1 X) (hx : ∀ k cells, w.heap[k]? = some (.cells cells TPr (0, 0)) → ¬ X k) (hb : ¬ X bl) : PrRep w1 base bl arr n i PS :=
  ⟨by rw [hk.2 bl (Array.getElem?_eq_some_iff.1 h.head).1 hb]; exact h.head, h.size, fun j hj => by
    obtain ⟨A, c, h1, h2⟩ := h.row j hj
    exact ⟨A, c, h1, R_kept_ty h2 hk hx⟩⟩
theorem PrRep.below (h : PrRep w base bl arr n i PS) (hb : Below w.heap.size w w1) : PrRep w1 base bl arr n i PS := h.kept (Kept.of_below hb (fun _ => False)) (fun _ _ _ h => h) (fun h => h)
theorem PrRep.at (h : PrRep w base bl arr n i PS) {j : Nat} (hj : j < i) : ∃ A c, w.cell? ⟨bl, j, none⟩ = some (.slice A (PS j).length c) ∧ (PS j).length ≤ c ∧ Kd.C kPr w A (PS j).length (PS j) := by
  obtain ⟨A, c, h1, h2⟩ := h.row j hj
  have := Kd.R_reads' h2
  have hc : w.cell? (Addr.add ⟨bl, 0, none⟩ j) = some (.slice A (PS j).length c) := World.news_of_block h.head j _ (by rw [Array.getElem?_toList]; exact h1)
  rw [show (⟨bl, j, none⟩ : Addr) = Addr.add ⟨bl, 0, none⟩ j from by simp [Addr.add]]
  exact ⟨A, c, hc, this.2.1, this.2.2⟩
/-- the next text's fingerprints are laid down -/
theorem PrRep.set (h : PrRep w base bl arr n i PS) (hi : i < n) {A : Option Addr} {c : Nat} (hr : Kd.R kPr TPr w base Yes (.slice A (PS i).length c) (PS i)) :
    PrRep (w.setCell ⟨bl, i, none⟩ (.slice A (PS i).length c)) base bl (arr.set! i (.slice A (PS i).length c)) n (i + 1) PS := by
  have hk : Kept w (w.setCell ⟨bl, i, none⟩ (.slice A (PS i).length c)) (fun k => k = bl) := Kept.setCell (S := fun k => k = bl) (Kept.refl w _) (.inl rfl) _
  have ne : ∀ k cells, w.heap[k]? = some (.cells cells TPr (0, 0)) → ¬ k = bl := fun k cells hc e => by
    rw [e, h.head] at hc
    injection hc with hc
    injection hc with _ hc
    exact absurd hc (by decide)
  refine ⟨?_, by simp [h.size], fun j hj => ?_⟩
  · obtain ⟨hlt, hk'⟩ := Array.getElem?_eq_some_iff.1 h.head
    show (w.heap.modify bl _)[bl]? = _
    rw [Array.getElem?_eq_getElem (by rw [Array.size_modify]; exact hlt), Array.getElem_modify_self, hk']
    rfl
  · by_cases g : j = i
    · subst g
      exact ⟨A, c, by simp [Array.getElem?_setIfInBounds, h.size, hi], R_kept_ty hr hk ne⟩
    · obtain ⟨A', c', h1, h2⟩ := h.row j (by omega)
      exact ⟨A', c', by simp [Array.getElem?_setIfInBounds, Ne.symm g, h1], R_kept_ty h2 hk ne⟩
end
end Go.Proofs.YtbakoigejihnaaaGreatDoor.Wp
end
section
set_option linter.unusedSectionVars false
set_option linter.unusedSimpArgs false
set_option linter.unusedVariables false
namespace Go.Proofs.YtbakoigejihnaaaGreatDoor.Wp
open Go.RowKit Go.MapG Go.MapKept Go.Proofs.YtbakoigejihnaaaGreatDoorW.PrintWords Go.Proofs.YtbakoigejihnaaaGreatDoorW.PrintLast Go.Proofs.YtbakoigejihnaaaGreatDoorW.PrintMore
open Kl (Diag Cl Plc)

structure CMem (w : World) (B bf bs bo bp bl : Nat) (A : Option Addr) (n c least : Nat) (S : Kl.Fin) (Q : Int → List Plc) (vs : Int → Value) (arr : Array Value) (i : Nat) (PS : Nat → List (Int × Int)) : Prop where
  fin : FinRep w bf bs bo A n c least S
  pl : PlRep w B bp Q vs
  pr : PrRep w B bl arr n i PS
  ne1 : bp ≠ bs
  ne2 : bp ≠ bo

section
variable {w w1 : World} {B bf bs bo bp bl : Nat} {A : Option Addr} {n c least : Nat} {S : Kl.Fin} {Q : Int → List Plc} {vs : Int → Value} {arr : Array Value} {i : Nat} {PS : Nat → List (Int × Int)} {X : Nat → Prop}
theorem FinRep.kept_cells (h : FinRep w bf bs bo A n c least S) (hk : Kept w w1 X) {e : TypeId} (he : e ≠ 110) (hx : ∀ k, X k → ∃ cells fr, w.heap[k]? = some (.cells cells e fr)) : FinRep w1 bf bs bo A n c least S := by
  refine h.kept hk (fun g => ?_) (fun g => ?_) (fun g => ?_)
  · obtain ⟨cells, fr, hc⟩ := hx _ g
    rw [h.head] at hc
    injection hc with hc
    injection hc with _ hc
    exact he hc.symm
  · obtain ⟨cells, fr, hc⟩ := hx _ g
    obtain ⟨_, _, hm, _⟩ := h.seen
    rw [hc] at hm; cases hm
  · obtain ⟨cells, fr, hc⟩ := hx _ g
    obtain ⟨_, _, hm, _⟩ := h.found
    rw [hc] at hm; cases hm
theorem CMem.below (h : CMem w B bf bs bo bp bl A n c least S Q vs arr i PS) (hb : Below w.heap.size w w1) : CMem w1 B bf bs bo bp bl A n c least S Q vs arr i PS :=
  ⟨h.fin.below hb, h.pl.below hb, h.pr.below hb, h.ne1, h.ne2⟩
theorem CMem.set (h : CMem w B bf bs bo bp bl A n c least S Q vs arr i PS) (hi : i < n) {D : Option Addr} {d : Nat} (hr : Kd.R kPr TPr w B Yes (.slice D (PS i).length d) (PS i)) :
    CMem (w.setCell ⟨bl, i, none⟩ (.slice D (PS i).length d)) B bf bs bo bp bl A n c least S Q vs (arr.set! i (.slice D (PS i).length d)) (i + 1) PS ∧ Kd.R kPr TPr (w.setCell ⟨bl, i, none⟩ (.slice D (PS i).length d)) B Yes (.slice D (PS i).length d) (PS i) := by
  have hk : Kept w (w.setCell ⟨bl, i, none⟩ (.slice D (PS i).length d)) (fun k => k = bl) := Kept.setCell (S := fun k => k = bl) (Kept.refl w _) (.inl rfl) _
  have ne : ∀ e, e ≠ TPs → ∀ k cells, w.heap[k]? = some (.cells cells e (0, 0)) → ¬ k = bl := fun e he k cells hc g => by
    rw [g, h.pr.head] at hc
    injection hc with hc
    injection hc with _ hc
    exact he hc.symm
  refine ⟨⟨h.fin.kept_cells hk (e := TPs) (by decide) (fun k g => ⟨arr, (0, 0), by subst g; exact h.pr.head⟩), h.pl.kept hk (ne TPl (by decide)) (fun g => ?_), h.pr.set hi hr, h.ne1, h.ne2⟩, R_kept_ty hr hk (ne TPr (by decide))⟩
  obtain ⟨_, _, hm, _⟩ := h.pl.map
  rw [g, h.pr.head] at hm; cases hm
theorem PrRep.cell (h : PrRep w B bl arr n i PS) {j : Nat} (hj : j < n) : ∃ x, w.cell? ⟨bl, j, none⟩ = some x := by
  have hs : j < arr.size := by rw [h.size]; exact hj
  have hc : w.cell? (Addr.add ⟨bl, 0, none⟩ j) = some arr[j] := World.news_of_block h.head j _ (by rw [Array.getElem?_toList]; exact Array.getElem?_eq_getElem hs)
  rw [show (⟨bl, j, none⟩ : Addr) = Addr.add ⟨bl, 0, none⟩ j from by simp [Addr.add]]
  exact ⟨_, hc⟩
theorem CMem.push (h : CMem w B bf bs bo bp bl A n c least S Q vs arr i PS) {s : Int} {y : Plc} {v1 : Value} (hg : w.grownBy w1 (vs s).ownBlock) (hr : Kd.R kPr TPl w1 B Yes v1 (plS (Q s) ++ [(((y.text : Nat) : Int), ((y.at_ : Nat) : Int))]))
    (hat : v1.ownBlock = (vs s).ownBlock ∨ ∃ b, v1.ownBlock = some b ∧ w.heap.size ≤ b) :
    ∃ w2, (Instr.mapUpdate 111 (.map (some bp)) (.int .i64 s) v1).run Tryz.prog w1 = .ok () w2 ∧ w1.grownBy w2 (some bp) ∧
      CMem w2 B bf bs bo bp bl A n c least S (fun h => if h = s then Q s ++ [y] else Q h) (fun h => if h = s then v1 else vs h) arr i PS ∧
      ∀ v l, Kd.R kPr TPr w B Yes v l → Kd.R kPr TPr w2 B Yes v l := by
  obtain ⟨w2, hrun, hg2, hp⟩ := h.pl.push hg hr hat
  have hk := kept_grown hg
  have hk2 := kept_grown hg2
  have ty : ∀ k, (vs s).ownBlock = some k → ∃ cells fr, w.heap[k]? = some (.cells cells TPl fr) := fun k e => by
    obtain ⟨_, _, cells, hc⟩ := R_typed (h.pl.row s) e
    exact ⟨cells, _, hc⟩
  have ne : ∀ e, e ≠ TPl → ∀ k cells, w.heap[k]? = some (.cells cells e (0, 0)) → ¬ (vs s).ownBlock = some k := fun e he k cells hc g => by
    obtain ⟨cells', fr, hc'⟩ := ty k g
    rw [hc] at hc'
    injection hc' with hc'
    injection hc' with _ hc'
    exact he hc'
  have hm : ∃ es cl, w.heap[bp]? = some (.map es cl) := by obtain ⟨es, cl, hm, _⟩ := h.pl.map; exact ⟨es, cl, hm⟩
  have hm1 : ∃ es cl, w1.heap[bp]? = some (.map es cl) := by
    obtain ⟨es, cl, hm⟩ := hm
    refine ⟨es, cl, ?_⟩
    rw [hk.2 bp (Array.getElem?_eq_some_iff.1 hm).1 (fun g => by obtain ⟨cells, fr, hc⟩ := ty _ g; rw [hm] at hc; cases hc)]
    exact hm
  have ne2 : ∀ e k cells, w1.heap[k]? = some (.cells cells e (0, 0)) → ¬ some bp = some k := fun e k cells hc g => by
    injection g with g
    obtain ⟨es, cl, hm⟩ := hm1
    rw [g, hc] at hm; cases hm
  have hf1 : FinRep w1 bf bs bo A n c least S := h.fin.kept_cells hk (e := TPl) (by decide) ty
  have hr1 : PrRep w1 B bl arr n i PS := h.pr.kept hk (ne TPr (by decide)) (ne TPs (by decide) bl _ h.pr.head)
  refine ⟨w2, hrun, hg2, ⟨hf1.kept hk2 (ne2 _ _ _ hf1.head) (fun g => h.ne1 (by injection g)) (fun g => h.ne2 (by injection g)), hp, hr1.kept hk2 (ne2 TPr) (ne2 _ _ _ hr1.head), h.ne1, h.ne2⟩, fun v l hv => ?_⟩
  exact R_kept_ty (R_kept_ty hv hk (ne TPr (by decide))) hk2 (ne2 TPr)
end

/-- two places are the same -/
theorem eqP (d : Nat) (w : World) (x0 y0 x1 y1 : Int) :
    (Op.equalIn (d + 2) TPl (.agg #[.int .i64 x0, .int .i64 x1]) (.agg #[.int .i64 y0, .int .i64 y1])).run Tryz.prog w = .ok (x0 == y0 && x1 == y1) w := by
  refine eqA_of Tryz.underlying115 (by kernel_rfl) ?_
  refine eqf_cons (by rfl) (by go_simp; rfl) (by go_simp; rfl) (by go_simp) ?_
  exact eqf_last (by rfl) (by go_simp; rfl) (by go_simp; rfl) (by go_simp)

theorem run_len_map {P : Program} {w : World} {t kt et b clock : Nat} {es : Array MapEntry} (ht : P.underlying t = some (.map kt et)) (hb : w.heap[b]? = some (.map es clock)) (ty : TypeId) :
    (Builtin.len_ #[t] ty #[.map (some b)]).run P w = .ok (.int .i64 es.size) w := by
  simp [Builtin.len_, run_underlying ht, MapKept.run_getObj_map hb, Result.andThen, goInt]

/-- while the pairs l have been looked at -/
structure P2 (w0 W5 wr : World) (bf bs bo : Nat) (A : Option Addr) (T : List Tx) (c least : Nat) (l : List (Plc × Plc)) : Prop where
  fin : FinRep wr bf bs bo A T.length c least (Kl.looks (tw T) least l)
  low : Below w0.heap.size w0 wr
  kept : Kept W5 wr (fun k => k = bs ∨ k = bo)
  few : ∃ D : List Cl, D.Nodup ∧ D.length ≤ 1024 ∧ ∀ c, c ∈ D ↔ (Kl.looks (tw T) least l).found c ≠ none
section
variable {w0 W5 wr w1 : World} {bf bs bo : Nat} {A : Option Addr} {T : List Tx} {c least : Nat} {l : List (Plc × Plc)}
theorem P2.below (h : P2 w0 W5 wr bf bs bo A T c least l) (hb : Below wr.heap.size wr w1) : P2 w0 W5 w1 bf bs bo A T c least l :=
  ⟨h.fin.below hb, h.low.trans (hb.mono h.low.size), h.kept.below hb, h.few⟩
/-- how many have been found -/
theorem FinRep.count {S : Kl.Fin} {w : World} {n : Nat} (h : FinRep w bf bs bo A n c least S) : ∃ es clock, w.heap[bo]? = some (.map es clock) ∧ ∃ D : List Cl, D.Nodup ∧ D.length = es.size ∧ ∀ c, c ∈ D ↔ S.found c ≠ none := by
  obtain ⟨es, clock, h1, h2⟩ := h.found
  obtain ⟨D, hn, hl, hm⟩ := h2.keys
  refine ⟨es, clock, h1, D, hn, hl, fun c => ?_⟩
  rw [hm c]
  unfold foundF
  cases S.found c <;> simp
end
section
variable {w w1 : World} {B bf bs bo bp bl : Nat} {A : Option Addr} {n c least : Nat} {S : Kl.Fin} {Q : Int → List Plc} {vs : Int → Value} {arr : Array Value} {i : Nat} {PS : Nat → List (Int × Int)}
theorem CMem.later (h : CMem w B bf bs bo bp bl A n c least S Q vs arr i PS) (hk : Kept w w1 (fun k => k = bs ∨ k = bo)) : PlRep w1 B bp Q vs ∧ PrRep w1 B bl arr n i PS := by
  have ne : ∀ e k cells, w.heap[k]? = some (.cells cells e (0, 0)) → ¬ (k = bs ∨ k = bo) := fun e k cells hc g => by
    rcases g with g | g
    · obtain ⟨_, _, hm, _⟩ := h.fin.seen
      rw [← g, hc] at hm; cases hm
    · obtain ⟨_, _, hm, _⟩ := h.fin.found
      rw [← g, hc] at hm; cases hm
  exact ⟨h.pl.kept hk (ne TPl) (fun g => g.elim h.ne1 h.ne2), h.pr.kept hk (ne TPr) (ne TPs bl _ h.pr.head)⟩
theorem CMem.later_at (h : CMem w B bf bs bo bp bl A n c least S Q vs arr i PS) {j : Nat} (hj : j < i) :
    ∃ D d, ∀ W, Kept w W (fun k => k = bs ∨ k = bo) → W.cell? ⟨bl, j, none⟩ = some (.slice D (PS j).length d) ∧ (PS j).length ≤ d ∧ Kd.C kPr W D (PS j).length (PS j) := by
  obtain ⟨D, d, h1, _⟩ := h.pr.row j hj
  refine ⟨D, d, fun W hk => ?_⟩
  have hp := (h.later hk).2
  obtain ⟨D', d', h1', h2'⟩ := hp.row j hj
  rw [h1] at h1'
  injection h1' with h1'
  injection h1' with e1 e2 e3
  subst e1 e3
  have := Kd.R_reads' h2'
  have hc : W.cell? (Addr.add ⟨bl, 0, none⟩ j) = some (.slice D (PS j).length d) := World.news_of_block hp.head j _ (by rw [Array.getElem?_toList]; exact h1)
  rw [show (⟨bl, j, none⟩ : Addr) = Addr.add ⟨bl, 0, none⟩ j from by simp [Addr.add]]
  exact ⟨hc, this.2.1, this.2.2⟩
/-- the places of a hash, later -/
theorem CMem.later_row (h : CMem w B bf bs bo bp bl A n c least S Q vs arr i PS) (s : Int) :
    ∃ D d, vs s = .slice D (Q s).length d ∧ (Q s).length ≤ d ∧ ∀ W, Kept w W (fun k => k = bs ∨ k = bo) → Kd.C kPr W D (Q s).length (plS (Q s)) ∧ (Instr.lookup 111 (.map (some bp)) (.int .i64 s) false).run Tryz.prog W = .ok (.slice D (Q s).length d) W := by
  obtain ⟨D, d, h1, h2, _⟩ := Kd.R_reads (h.pl.row s)
  rw [plS_length] at h1 h2
  refine ⟨D, d, h1, h2, fun W hk => ?_⟩
  have hp := (h.later hk).1
  have hr := hp.row s
  rw [h1] at hr
  have : Kd.C kPr W D (Q s).length (plS (Q s)) := by have := (Kd.R_reads' hr).2.2; rwa [plS_length] at this
  refine ⟨this, ?_⟩
  rw [← h1]
  exact hp.look s
end

section
variable {α : Type} {d : Kd α} {w w1 : World} {e base : Nat} {v : Value} {xs : List α} {X : Nat → Prop}
theorem R_typedG (h : Kd.R d e w base Yes v xs) {k : Nat} (hk : v.ownBlock = some k) : base ≤ k ∧ k < w.heap.size ∧ ∃ cells, w.heap[k]? = some (.cells cells e (0, 0)) := by
  obtain ⟨_, inner, ho, _⟩ := h
  exact ⟨own_base ho k hk, own_lt ho k hk, own_typed ho k hk⟩
theorem R_kept_ownG (hE : d.E = []) (h : Kd.R d e w base Yes v xs) (hk : Kept w w1 X) (hx : ∀ k, v.ownBlock = some k → ¬ X k) : Kd.R d e w1 base Yes v xs :=
  Kd.R_mono (Kd.R_kept (Kd.R_tight hE h) hk (fun k e_ => hx k e_.symm)) (fun _ _ => trivial)
theorem R_kept_tyG (hE : d.E = []) (h : Kd.R d e w base Yes v xs) (hk : Kept w w1 X) (hx : ∀ k cells, w.heap[k]? = some (.cells cells e (0, 0)) → ¬ X k) : Kd.R d e w1 base Yes v xs :=
  R_kept_ownG hE h hk fun k e_ => by obtain ⟨_, _, cells, hc⟩ := R_typedG h e_; exact hx k cells hc
end
theorem kClone_E : (Ref.k37).E = [] := rfl
theorem infoClone : (Tryz.prog.info? TC).map (fun i => (i.zero, i.size, i.bytes)) = some (some (.agg #[.int .i64 0, .int .i64 0, .int .i64 0, .int .i64 0, .int .i64 0]), 5, 40) := by kernel_rfl
end Go.Proofs.YtbakoigejihnaaaGreatDoor.Wp
end
section
set_option linter.unusedSectionVars false
set_option linter.unusedSimpArgs false
set_option linter.unusedVariables false
namespace Go.Proofs.YtbakoigejihnaaaGreatDoor.Wp
open Go.RowKit Go.Sort Go.Proofs.YtbakoigejihnaaaGreatDoorW.PrintWords Go.Proofs.YtbakoigejihnaaaGreatDoorW.PrintLast Go.Proofs.YtbakoigejihnaaaGreatDoorW.PrintMore

def cmpI (x y : Int) : Int := if x < y then -1 else if y < x then 1 else 0
theorem compare_ev (x y : Int) : Ref.cmp_Compare_int.f x y = some (cmpI x y) := by
  unfold Ref.cmp_Compare_int.f Ref.cmp_isNaN_int.f cmpI
  simp
  by_cases h : x < y
  · simp [h]
  · by_cases h2 : y < x <;> simp [h, h2]
def orI (a b c d : Int) : Int := if a ≠ 0 then a else if b ≠ 0 then b else if c ≠ 0 then c else d
theorem or_ev (a b c d : Int) : Ref.cmp_Or_int.f 10 [a, b, c, d] = some (orI a b c d) := by
  unfold Ref.cmp_Or_int.f orI
  have e0 : ∀ a b c d : Int, rd [a, b, c, d] 0 = a := fun _ _ _ _ => rfl
  have e1 : ∀ a b c d : Int, rd [a, b, c, d] 1 = b := fun _ _ _ _ => rfl
  have e2 : ∀ a b c d : Int, rd [a, b, c, d] 2 = c := fun _ _ _ _ => rfl
  have e3 : ∀ a b c d : Int, rd [a, b, c, d] 3 = d := fun _ _ _ _ => rfl
  have w1 : wrap64 1 = 1 := by kernel_rfl
  have w2 : wrap64 2 = 2 := by kernel_rfl
  have w3 : wrap64 3 = 3 := by kernel_rfl
  have w4 : wrap64 4 = 4 := by kernel_rfl
  by_cases ha : a = 0
  · by_cases hb : b = 0
    · by_cases hc : c = 0
      · by_cases hd : d = 0
        · simp [Ref.cmp_Or_int.l0, e0, e1, e2, e3, w1, w2, w3, w4, ha, hb, hc, hd]
        · simp [Ref.cmp_Or_int.l0, e0, e1, e2, e3, w1, w2, w3, w4, ha, hb, hc, hd]
      · simp [Ref.cmp_Or_int.l0, e0, e1, e2, e3, w1, w2, w3, w4, ha, hb, hc]
    · simp [Ref.cmp_Or_int.l0, e0, e1, e2, e3, w1, w2, w3, w4, ha, hb]
  · simp [Ref.cmp_Or_int.l0, e0, e1, e2, e3, w1, w2, w3, w4, ha]

theorem ints4 {W : World} {g : Nat} {e : TypeId} (a b c d : Int) (h : W.heap[g]? = some (.cells #[.int .i64 a, .int .i64 b, .int .i64 c, .int .i64 d] e (0, 0))) : Kd.C (Kd.int .i64) W (some ⟨g, 0, none⟩) ([a, b, c, d] : List Int).length [a, b, c, d] := by
  refine ⟨rfl, by simp, fun _ => ⟨_, rfl, fun j p hp => ⟨[.int .i64 p], rfl, rfl, fun i u hu => ?_⟩⟩⟩
  have hi : i = 0 := by
    rcases i with _ | i
    · rfl
    · simp at hu
  subst hi
  have hu' : u = .int .i64 p := by simpa using hu.symm
  subst hu'
  refine World.news_of_block h (j * 1 + 0) _ ?_
  rcases j with _ | _ | _ | _ | j <;> simp at hp ⊢
  all_goals first | exact hp | skip

theorem grown_end {w W2 : World} {os : Array Obj} (h : W2 = grow (w.drewN 0) os) (a b : Nat) (o : Obj) : ∃ q os', ((W2.drewN a).alloc o).drewN b = grow (w.drewN q) os' :=
  ⟨0 + a + b, os ++ #[o], by
    rw [h, alloc_eq_grow]
    show grow (grow (((w.drewN 0).drewN a).drewN b) os) #[o] = _
    rw [grow_grow, World.drewN_drewN, World.drewN_drewN, Nat.add_assoc]⟩

set_option maxHeartbeats 8000000 in
set_option maxRecDepth 100000 in
theorem compare_calls (x0 x1 x2 x3 x4 y0 y1 y2 y3 y4 : Int) (w : World) :
    Calls Tryz.prog 55 #[.agg #[.int .i64 x0, .int .i64 x1, .int .i64 x2, .int .i64 x3, .int .i64 x4], .agg #[.int .i64 y0, .int .i64 y1, .int .i64 y2, .int .i64 y3, .int .i64 y4]] w
      fun e w' => e = .returned (.int .i64 (orI (cmpI x0 y0) (cmpI x1 y1) (cmpI x2 y2) (cmpI x3 y3))) ∧ ∃ q os', w' = grow (w.drewN q) os' := by
  have hc := fun x y W => Ref.cmp_Compare_int.calls x y _ W (compare_ev x y)
  have HCmp := Aside0.mk hc
  have ho : ∀ (a b c d : Int) (W : World) (g : Nat) (e : TypeId), W.heap[g]? = some (.cells #[.int .i64 a, .int .i64 b, .int .i64 c, .int .i64 d] e (0, 0)) → Calls Tryz.prog 86 #[.slice (some ⟨g, 0, none⟩) 4 4] W fun e w' => e = .returned (.int .i64 (orI a b c d)) ∧ Drawn0 W w' :=
    fun a b c d W g e h => Ref.cmp_Or_int.calls 10 (some ⟨g, 0, none⟩) 4 [a, b, c, d] _ W (ints4 a b c d h) (by simp) (or_ev a b c d)
  have HOr := Aside0.mk ho
  clear hc ho
  go_enter Tryz.func55, Tryz.ntmps55
  go_wp2_with fail
  obtain ⟨W2, hW2⟩ : ∃ W2, W2 = ((w.alloc (.cells #[.int .i64 x0, .int .i64 x1, .int .i64 x2, .int .i64 x3, .int .i64 x4] 37)).alloc (.cells #[.int .i64 y0, .int .i64 y1, .int .i64 y2, .int .i64 y3, .int .i64 y4] 37)) := ⟨_, rfl⟩
  rw [← hW2]
  have h1 : W2.heap[w.heap.size]? = some (.cells #[.int .i64 x0, .int .i64 x1, .int .i64 x2, .int .i64 x3, .int .i64 x4] 37 (0, 0)) := by rw [hW2, heap_alloc_old _ _ (by simp)]; exact heap_alloc_new _ _
  have h2 : W2.heap[w.heap.size + 1]? = some (.cells #[.int .i64 y0, .int .i64 y1, .int .i64 y2, .int .i64 y3, .int .i64 y4] 37 (0, 0)) := by
    rw [hW2]
    have := heap_alloc_new (w.alloc (.cells #[.int .i64 x0, .int .i64 x1, .int .i64 x2, .int .i64 x3, .int .i64 x4] 37)) (.cells #[.int .i64 y0, .int .i64 y1, .int .i64 y2, .int .i64 y3, .int .i64 y4] 37)
    rwa [show (w.alloc (.cells #[.int .i64 x0, .int .i64 x1, .int .i64 x2, .int .i64 x3, .int .i64 x4] 37)).heap.size = w.heap.size + 1 from by simp] at this
  have HG : Aside0 (W2 = grow (w.drewN 0) #[.cells #[.int .i64 x0, .int .i64 x1, .int .i64 x2, .int .i64 x3, .int .i64 x4] 37, .cells #[.int .i64 y0, .int .i64 y1, .int .i64 y2, .int .i64 y3, .int .i64 y4] 37]) := ⟨by rw [hW2, alloc_eq_grow, alloc_eq_grow, grow_grow]; rfl⟩
  have a0 : W2.cell? ⟨w.heap.size, 0, none⟩ = some (.int .i64 x0) := World.news_of_block h1 0 _ rfl
  have a1 : W2.cell? ⟨w.heap.size, 1, none⟩ = some (.int .i64 x1) := World.news_of_block h1 1 _ rfl
  have a2 : W2.cell? ⟨w.heap.size, 2, none⟩ = some (.int .i64 x2) := World.news_of_block h1 2 _ rfl
  have a3 : W2.cell? ⟨w.heap.size, 3, none⟩ = some (.int .i64 x3) := World.news_of_block h1 3 _ rfl
  have b0 : W2.cell? ⟨w.heap.size + 1, 0, none⟩ = some (.int .i64 y0) := World.news_of_block h2 0 _ rfl
  have b1 : W2.cell? ⟨w.heap.size + 1, 1, none⟩ = some (.int .i64 y1) := World.news_of_block h2 1 _ rfl
  have b2 : W2.cell? ⟨w.heap.size + 1, 2, none⟩ = some (.int .i64 y2) := World.news_of_block h2 2 _ rfl
  have b3 : W2.cell? ⟨w.heap.size + 1, 3, none⟩ = some (.int .i64 y3) := World.news_of_block h2 3 _ rfl
  have e1 : W2.heap.size ≠ w.heap.size := World.new_ne W2 _ a0
  have e2 : W2.heap.size ≠ w.heap.size + 1 := World.new_ne W2 _ b0
  clear hW2 h1 h2
  generalize w.heap.size + 1 = bb at b0 b1 b2 b3 e2 ⊢
  generalize w.heap.size = ba at a0 a1 a2 a3 e1 ⊢
  go_region_held3 (fun w' => w'.cell? ⟨ba, 0, none⟩ = some (.int .i64 x0) ∧ w'.cell? ⟨ba, 1, none⟩ = some (.int .i64 x1) ∧ w'.cell? ⟨ba, 2, none⟩ = some (.int .i64 x2) ∧ w'.cell? ⟨ba, 3, none⟩ = some (.int .i64 x3) ∧
      w'.cell? ⟨bb, 0, none⟩ = some (.int .i64 y0) ∧ w'.cell? ⟨bb, 1, none⟩ = some (.int .i64 y1) ∧ w'.cell? ⟨bb, 2, none⟩ = some (.int .i64 y2) ∧ w'.cell? ⟨bb, 3, none⟩ = some (.int .i64 y3)) (go_keep)
    (first | (go_at_call 60; refine (HCmp.out _ _ _).mono ?_; rintro e w' ⟨rfl, ⟨nd, rfl⟩⟩) | (go_at_call 86; refine (HOr.out _ _ _ _ _ _ _ (by exact heap_alloc_new W2 _)).mono ?_; rintro e w' ⟨rfl, ⟨nd, rfl⟩⟩))
  all_goals
    clear a0 a1 a2 a3 b0 b1 b2 b3
    go_wp2
    go_ret
    exact ⟨rfl, grown_end HG.out _ _ _⟩

instance : Inhabited Ref.S37 := ⟨Ref.z37⟩
/-- how compare orders -/
def cmpS (x y : Ref.S37) : Int := orI (cmpI x.f0 y.f0) (cmpI x.f1 y.f1) (cmpI x.f2 y.f2) (cmpI x.f3 y.f3)
def encS (x : Ref.S37) : List Value := [.int .i64 x.f0, .int .i64 x.f1, .int .i64 x.f2, .int .i64 x.f3, .int .i64 x.f4]
theorem ltS (x y : Ref.S37) : ltOf cmpS x y = decide (x.f0 < y.f0 ∨ x.f0 = y.f0 ∧ (x.f1 < y.f1 ∨ x.f1 = y.f1 ∧ (x.f2 < y.f2 ∨ x.f2 = y.f2 ∧ x.f3 < y.f3))) := by
  unfold ltOf cmpS orI cmpI
  rw [Bool.eq_iff_iff]
  simp only [decide_eq_true_eq]
  repeat' split
  all_goals omega
theorem swoS : SWO (ltOf cmpS) where
  irrefl x := by rw [ltS]; simp
  trans x y z h1 h2 := by rw [ltS] at *; simp only [decide_eq_true_eq] at *; omega
  ntrans x y z h1 h2 := by rw [ltS] at *; simp only [decide_eq_false_iff_not] at *; omega
theorem cmpLays (blk off size : Nat) (w : World) : CmpLays Tryz.prog 55 #[] encS 5 cmpS blk off size w :=
  fun _ _ _ _ x y => compare_calls x.f0 x.f1 x.f2 x.f3 x.f4 y.f0 y.f1 y.f2 y.f3 y.f4 _
end Go.Proofs.YtbakoigejihnaaaGreatDoor.Wp
end
section
set_option linter.unusedSectionVars false
set_option linter.unusedSimpArgs false
set_option linter.unusedVariables false
namespace Go.Proofs.YtbakoigejihnaaaGreatDoor.Wp
open Go.RowKit Go.Proofs.YtbakoigejihnaaaGreatDoorW.PrintWords Go.Proofs.YtbakoigejihnaaaGreatDoorW.PrintLast Go.Proofs.YtbakoigejihnaaaGreatDoorW.PrintMore
open Go.Shelf Go.Sort

abbrev SC := Ref.S37
abbrev kC : Kd SC := Ref.k37

theorem C_of_holdsK {w : World} {g : Nat} {l : List SC} (h : HoldsK encS 5 w g 0 l.toArray) (hl : l.length ≤ 100000) : Kd.C kC w (some ⟨g, 0, none⟩) l.length l := by
  refine ⟨rfl, by omega, fun _ => ⟨_, rfl, fun j p hj => ⟨encS p, rfl, Ref.k37_mk w p, fun i u hu => ?_⟩⟩⟩
  have hjl : j < l.length := (List.getElem?_eq_some_iff.1 hj).1
  have hp : l.toArray[j]! = p := by
    rw [getElem!_pos _ j (by simpa using hjl)]
    have := (List.getElem?_eq_some_iff.1 hj).2
    simpa using this
  have hi : i < 5 := by
    have := (List.getElem?_eq_some_iff.1 hu).1
    simpa [encS] using this
  have := (h.cell (i := j) (c := i) (by simpa using hjl) hi).1
  rw [hp, Nat.zero_add] at this
  have e : (⟨g, 0, none⟩ : Addr).add (j * kC.sz + i) = ⟨g, j * 5 + i, none⟩ := by
    show (⟨g, 0, none⟩ : Addr).add (j * 5 + i) = _
    simp [Addr.add]
    omega
  rw [e, this]
  rw [getElem!_pos (encS p) i (by simpa [encS] using hi)]
  rw [List.getElem?_eq_getElem (by simpa [encS] using hi)] at hu
  exact hu

theorem sort_calls (w : World) (base : Nat) (v : Value) (l : List SC) (hR : Kd.R kC TC w base Yes v l) (hl : l.length ≤ 100000) :
    Calls Tryz.prog 54 #[v, .func (.func 55) #[] #[]] w fun e w' => e = .returned (.tuple #[]) ∧ Below base w w' ∧
      ∃ ys : List SC, ys.Perm l ∧ ys.Pairwise (fun a b => ltOf cmpS b a = false) ∧ ∃ A1 c1, v = .slice A1 l.length c1 ∧ l.length ≤ c1 ∧ Kd.C kC w' A1 l.length ys := by
  have hreads := Kd.R_reads hR
  obtain ⟨_, inner, hown, hrep⟩ := hR
  rcases hown.2 with ⟨hv, hn⟩ | ⟨g, cap, cur, hv, hg, hrest⟩
  · subst hv
    have hnil : l = [] := List.eq_nil_of_length_eq_zero (by simpa using hn)
    subst hnil
    have := AnyF.slices_SortFunc_none Tryz.sortClone none 0 (.func (.func 55) #[] #[]) w
    exact this.mono fun e w' ⟨h1, h2⟩ => ⟨h1, by rw [h2]; exact Below.refl _ _, [], List.Perm.refl _, List.Pairwise.nil, none, 0, rfl, Nat.le_refl _, ⟨rfl, by simp, fun h => by simp at h⟩⟩
  · subst hv
    have hb : base ≤ g := hg
    have hgl : g < w.heap.size := own_lt hown g rfl
    obtain ⟨A', c', hA, hcap, _⟩ := hreads
    injection hA with hA1 hA2 hA3
    have hH : HoldsK encS 5 w g 0 l.toArray := by
      intro t ht
      rw [size_flatK] at ht
      have ht2 : t < l.length * 5 := by simpa using ht
      have hi : t / 5 < l.length := by omega
      rw [get_flatK _ _ _ _ ht, Nat.zero_add, World.ownsRow.cellAt hown t (by show t < l.length * 5; exact ht2)]
      refine ⟨?_, World.ownsRow.frozenAt hown t⟩
      have hM := hrep.2 (t / 5) _ (List.getElem?_eq_getElem hi)
      have hcs := Ref.k37_openM hM
      have hat : inner[t]? = ((inner.drop (t / 5 * kC.sz)).take kC.sz)[t % 5]? := by
        rw [List.getElem?_take, List.getElem?_drop]
        have e : kC.sz = 5 := rfl
        rw [e, if_pos (by omega)]
        congr 1; omega
      have e2 : l.toArray[t / 5]! = l[t / 5] := by
        rw [getElem!_pos _ (t / 5) (by simpa using hi)]; simp
      rw [hat, hcs, e2]
      show (encS l[t / 5])[t % 5]? = some (id (encS l[t / 5])[t % 5]!)
      have hlt : t % 5 < (encS l[t / 5]).length := by simp [encS]; omega
      rw [getElem!_pos (encS l[t / 5]) (t % 5) hlt]
      exact List.getElem?_eq_getElem hlt
    have eg : ∀ args w, (callFunc 55 args).run Tryz.prog w = .ok (.enter 55 args) w := enters_of Tryz.func55 (by kernel_rfl) rfl
    have hcall := AnyQ.slices_SortFunc Tryz.sortClone 5 Tryz.isAgg37 Tryz.sizeOf37 encS (fun _ => rfl) (fun x v hv => by simp [encS] at hv; rcases hv with rfl | rfl | rfl | rfl | rfl <;> rfl) cmpS swoS 55 #[] g 0 cap l.toArray w eg (cmpLays g 0 l.toArray.size w) hH hgl (by simp; omega)
    change Calls Tryz.prog 54 _ _ _ at hcall
    have hcall' : Calls Tryz.prog 54 #[.slice (some ⟨g, 0, none⟩) l.length cap, .func (.func 55) #[] #[]] w fun e w' => e = .returned (.tuple #[]) ∧ ∃ d' n os, PermIn 0 l.length l.toArray d' ∧ SortedIn (ltOf cmpS) 0 l.length d' ∧ w' = sortWorldK encS 5 w g 0 n d' os := by simpa using hcall
    refine hcall'.mono ?_
    rintro e w' ⟨rfl, d', n, os, hp, hs, rfl⟩
    have hsz : d'.size = l.length := by simpa using hp.1
    have hperm : d'.toList.Perm l := by
      have := hp.2.2
      rwa [show d'.extract 0 l.length = d' from by rw [← hsz]; simp, show l.toArray.extract 0 l.length = l.toArray from by simp] at this
    refine ⟨rfl, ?_, d'.toList, hperm, ?_, _, _, rfl, by omega, ?_⟩
    · refine ⟨rfl, rfl, rfl, by simp [sortWorldK, grow, putRowK, putRow, mapBlock, Sort.ahead], fun k hk => ?_⟩
      have : g ≠ k := by omega
      show ((mapBlock (Sort.ahead w n) g (putCells id 0 (flatK encS 5 d'))).heap ++ os)[k]? = _
      rw [Array.getElem?_append_left (by simp [mapBlock, Sort.ahead]; omega)]
      simp [mapBlock, Array.getElem?_modify, this, Sort.ahead]
    · rw [List.pairwise_iff_getElem]
      intro i j hi hj hij
      have h := hs i j (Nat.zero_le _) hij (by simpa [hsz] using hj)
      rw [getElem!_pos _ j (by simpa using hj), getElem!_pos _ i (by simpa using hi)] at h
      simpa using h
    · have h2 : HoldsK encS 5 (putRowK encS 5 (Sort.ahead w n) g 0 d') g 0 d' :=
        holds_putRow id (Sort.ahead w n) g 0 (flatK encS 5 l.toArray) _ hH (by simp [hsz])
      have h3 : HoldsK encS 5 (grow (putRowK encS 5 (Sort.ahead w n) g 0 d') os) g 0 d' := holdsK_grow encS 5 _ os g 0 d' (by simpa [putRowK, putRow, mapBlock, Sort.ahead] using hgl) h2
      have h4 := C_of_holdsK (l := d'.toList) (by simpa using h3) (by simpa [hsz] using hl)
      have e5 : d'.toList.length = l.length := by simpa using hsz
      rw [e5] at h4
      exact h4
end Go.Proofs.YtbakoigejihnaaaGreatDoor.Wp
end
