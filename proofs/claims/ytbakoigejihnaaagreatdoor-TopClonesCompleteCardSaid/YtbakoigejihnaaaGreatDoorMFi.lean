/- Maps keyed by integers and structs, and the finder of clones, in memory and walked. Conditions: none. -/
import Derived.WalkKit
import Derived.KernelRfl
import Derived.Maps.RangeRun
import Derived.Maps.Own
import Derived.WideKeyRuns
import Derived.Test.YtbakoigejihnaaaGreatDoorMWp
import Derived.Test.YtbakoigejihnaaaGreatDoorVEqStruct
import Derived.Test.YtbakoigejihnaaaGreatDoorVKept
import Derived.StillTailTactics
section
set_option linter.unusedSectionVars false
set_option linter.unusedSimpArgs false
set_option linter.unusedVariables false
namespace Go.MapG
open Go.MapKept
open Go.ChangeMaps (setBlock)
open Go.RowKit

abbrev Ent (K : Type) := K × Value × Nat
section
variable {K : Type} [DecidableEq K] {P : Program} {kt : TypeId} {kv : K → Value}

/-- an entry as the model has it -/
def entryOf (kv : K → Value) (x : Ent K) : MapEntry := ⟨kv x.1, x.2.1, x.2.2⟩

/-- what the operations on a map ask of the keys' type -/
structure KeyOk (P : Program) (kt : TypeId) (kv : K → Value) : Prop where
  inj : ∀ a b, kv a = kv b → a = b
  check : ∀ (w : World) (em : Bool) (k : K), (Instr.checkKey em 10000 kt (kv k)).run P w = .ok () w
  find : ∀ (w : World) (k : K) (L : List (Ent K)), ((Instr.findKey kt (kv k) (L.map (entryOf kv))).run P w = .ok none w ∧ ∀ x, x ∈ L → x.1 ≠ k) ∨
    ∃ j x, (Instr.findKey kt (kv k) (L.map (entryOf kv))).run P w = .ok (some (j, x.2.1)) w ∧ L[j]? = some x ∧ x.1 = k
  stays : ∀ (w : World) (k : K), (Instr.keyThatStays (kv k) (kv k)).run P w = .ok (kv k) w

theorem keyOk_int {q : IntKind} (hk : P.underlying kt = some (.int q)) : KeyOk P kt (fun n : Int => .int q n) where
  inj a b h := by injection h
  check w em k := run_checkKey (k := .int q k) hk (by simp [IsKey]) em 9999
  stays w k := by simp [Instr.keyThatStays, Instr.sameBits]
  find w k L := by
    have H : ∀ (L : List (Ent Int)) (i : Nat), (Instr.findNow (.int q) (.int q k) (L.map (entryOf fun n : Int => .int q n)) i = some none ∧ ∀ x, x ∈ L → x.1 ≠ k) ∨
        ∃ j x, Instr.findNow (.int q) (.int q k) (L.map (entryOf fun n : Int => .int q n)) i = some (some (i + j, x.2.1)) ∧ L[j]? = some x ∧ x.1 = k := by
      intro L
      induction L with
      | nil => intro i; exact .inl ⟨rfl, fun x hx => by simp at hx⟩
      | cons x L ih =>
        intro i
        by_cases e : x.1 = k
        · have hb : (k == x.1) = true := by rw [beq_iff_eq]; exact e.symm
          exact .inr ⟨0, x, by simp [Instr.findNow, Instr.sameNow, entryOf, hb], rfl, e⟩
        · have hb : (k == x.1) = false := by rw [beq_eq_false_iff_ne]; exact fun h => e h.symm
          have hn : Instr.findNow (.int q) (.int q k) ((x :: L).map (entryOf fun n : Int => .int q n)) i = Instr.findNow (.int q) (.int q k) (L.map (entryOf fun n : Int => .int q n)) (i + 1) := by
            simp [Instr.findNow, Instr.sameNow, entryOf, hb]
          rw [hn]
          rcases ih (i + 1) with ⟨h1, h2⟩ | ⟨j, y, h1, h2, h3⟩
          · refine .inl ⟨h1, fun z hz => ?_⟩
            rcases List.mem_cons.1 hz with rfl | hz
            · exact e
            · exact h2 z hz
          · exact .inr ⟨j + 1, y, by rw [h1, Nat.add_assoc, Nat.add_comm 1 j], by simpa using h2, h3⟩
    rcases H L 0 with ⟨h1, h2⟩ | ⟨j, x, h1, h2, h3⟩
    · exact .inl ⟨run_findKey hk h1, h2⟩
    · exact .inr ⟨j, x, by simpa using run_findKey (w := w) hk h1, h2, h3⟩

/-- keys of a struct type -/
theorem keyOk_wide (hwide : (match P.underlying kt with | some (.array _ _) | some (.struct _) => true | _ => false) = true) (inj : ∀ a b, kv a = kv b → a = b)
    (check : ∀ (w : World) (em : Bool) (k : K), (Instr.checkKey em 10000 kt (kv k)).run P w = .ok () w) (bits : ∀ k : K, Instr.sameBits 10000 (kv k) (kv k) = true)
    (eq : ∀ (w : World) (a b : K), (Op.equal kt (kv a) (kv b)).run P w = .ok (decide (a = b)) w) : KeyOk P kt kv where
  inj := inj
  check := check
  stays w k := by simp [Instr.keyThatStays, bits k]
  find w k L := by
    have H : ∀ (L : List (Ent K)) (i : Nat), ((Instr.findAsking kt (kv k) (L.map (entryOf kv)) i).run P w = .ok none w ∧ ∀ x, x ∈ L → x.1 ≠ k) ∨
        ∃ j x, (Instr.findAsking kt (kv k) (L.map (entryOf kv)) i).run P w = .ok (some (i + j, x.2.1)) w ∧ L[j]? = some x ∧ x.1 = k := by
      intro L
      induction L with
      | nil => intro i; exact .inl ⟨rfl, fun x hx => by simp at hx⟩
      | cons x L ih =>
        intro i
        by_cases e : k = x.1
        · refine .inr ⟨0, x, ?_, rfl, e.symm⟩
          simp only [List.map_cons, Instr.findAsking, entryOf, Sem.run_bind, eq, Result.andThen, e, decide_true]
          rfl
        · have hn : (Instr.findAsking kt (kv k) ((x :: L).map (entryOf kv)) i).run P w = (Instr.findAsking kt (kv k) (L.map (entryOf kv)) (i + 1)).run P w := by
            simp only [List.map_cons, Instr.findAsking, entryOf, Sem.run_bind, eq, Result.andThen, e, decide_false]
            rfl
          rw [hn]
          rcases ih (i + 1) with ⟨h1, h2⟩ | ⟨j, y, h1, h2, h3⟩
          · refine .inl ⟨h1, fun z hz => ?_⟩
            rcases List.mem_cons.1 hz with rfl | hz
            · exact fun h => e h.symm
            · exact h2 z hz
          · exact .inr ⟨j + 1, y, by rw [h1, Nat.add_assoc, Nat.add_comm 1 j], by simpa using h2, h3⟩
    rw [run_findKey_eq w hwide]
    rcases H L 0 with ⟨h1, h2⟩ | ⟨j, x, h1, h2, h3⟩
    · exact .inl ⟨h1, h2⟩
    · exact .inr ⟨j, x, by rw [h1, Nat.zero_add], h2, h3⟩

/-- what a list of entries gives for a key -/
def giveOf (L : List (Ent K)) (s : K) : Option Value := (L.find? fun x => decide (x.1 = s)).map fun x => x.2.1

structure Entries (kv : K → Value) (es : Array MapEntry) (clock : Nat) (L : List (Ent K)) : Prop where
  eq : es.toList = L.map (entryOf kv)
  keys : (L.map fun x => x.1).Nodup
  stamps : (L.map fun x => x.2.2).Nodup
  old : ∀ x, x ∈ L → x.2.2 < clock

/-- the block's entries are those of the function f -/
def MapIs (kv : K → Value) (es : Array MapEntry) (clock : Nat) (f : K → Option Value) : Prop := ∃ L, Entries kv es clock L ∧ ∀ s, f s = giveOf L s

theorem mapIs_empty : MapIs kv #[] 0 (fun _ => none) := ⟨[], ⟨rfl, by simp, by simp, by simp⟩, fun _ => rfl⟩

theorem giveOf_none {L : List (Ent K)} {s : K} : giveOf L s = none ↔ ∀ x, x ∈ L → x.1 ≠ s := by
  unfold giveOf
  rw [Option.map_eq_none_iff, List.find?_eq_none]
  simp

theorem giveOf_some {L : List (Ent K)} (hk : (L.map fun x => x.1).Nodup) {s : K} {v : Value} : giveOf L s = some v ↔ ∃ b, (s, v, b) ∈ L := by
  induction L with
  | nil => simp [giveOf]
  | cons x L ih =>
    simp only [List.map_cons, List.nodup_cons] at hk
    have ih := ih hk.2
    by_cases e : x.1 = s
    · have h1 : giveOf (x :: L) s = some x.2.1 := by simp [giveOf, e]
      rw [h1]
      constructor
      · intro h; cases h; exact ⟨x.2.2, by subst e; exact List.mem_cons_self ..⟩
      · rintro ⟨b, hb⟩
        rcases List.mem_cons.1 hb with h | h
        · rw [← h]
        · exfalso; exact hk.1 (by rw [e]; exact List.mem_map.2 ⟨_, h, rfl⟩)
    · have h1 : giveOf (x :: L) s = giveOf L s := by simp [giveOf, List.find?_cons, e]
      rw [h1, ih]
      constructor
      · rintro ⟨b, hb⟩; exact ⟨b, List.mem_cons_of_mem _ hb⟩
      · rintro ⟨b, hb⟩
        rcases List.mem_cons.1 hb with h | h
        · exact (e (by rw [← h])).elim
        · exact ⟨b, h⟩

theorem giveOf_mem {L : List (Ent K)} {s : K} : giveOf L s ≠ none ↔ s ∈ L.map (fun x => x.1) := by
  rw [Ne, giveOf_none]
  simp

variable {w : World} {t et : TypeId} {b : Nat} {es : Array MapEntry} {clock : Nat} {f : K → Option Value}

/-- the number of entries is that of the different keys -/
theorem MapIs.keys (h : MapIs kv es clock f) : ∃ D : List K, D.Nodup ∧ D.length = es.size ∧ ∀ k, k ∈ D ↔ f k ≠ none := by
  obtain ⟨L, hE, hf⟩ := h
  refine ⟨L.map fun x => x.1, hE.keys, ?_, fun k => by rw [hf k, giveOf_mem]⟩
  have := congrArg List.length hE.eq
  simp only [Array.length_toList, List.length_map] at this
  simp [this]

theorem run_find (hK : KeyOk P kt kv) (h : MapIs kv es clock f) (s : K) :
    (f s = none ∧ (Instr.findKey kt (kv s) es.toList).run P w = .ok none w) ∨
    ∃ j v, f s = some v ∧ (Instr.findKey kt (kv s) es.toList).run P w = .ok (some (j, v)) w ∧ ∃ e, es[j]? = some e ∧ e.key = kv s := by
  obtain ⟨L, hE, hf⟩ := h
  rw [hf s, hE.eq]
  rcases hK.find w s L with ⟨h1, h2⟩ | ⟨j, x, h1, h2, h3⟩
  · exact .inl ⟨giveOf_none.2 h2, h1⟩
  · refine .inr ⟨j, x.2.1, (giveOf_some hE.keys).2 ⟨x.2.2, by subst h3; exact List.mem_of_getElem? h2⟩, h1, entryOf kv x, ?_, by rw [← h3]; rfl⟩
    rw [← Array.getElem?_toList, hE.eq, List.getElem?_map, h2]; rfl

theorem run_lookup_ok (ht : P.underlying t = some (.map kt et)) (hK : KeyOk P kt kv) {z : Value} (hz : (zeroValue et).run P w = .ok z w)
    (hb : w.heap[b]? = some (.map es clock)) (h : MapIs kv es clock f) (s : K) :
    (Instr.lookup t (.map (some b)) (kv s) true).run P w = .ok (.tuple #[(f s).getD z, .bool (f s).isSome]) w := by
  rcases run_find (w := w) hK h s with ⟨h1, h2⟩ | ⟨j, v, h1, h2, _⟩
  · simp [Instr.lookup, run_underlying ht, MapKept.run_getObj_map hb, hK.check, h2, hz, h1, Result.andThen]
  · simp [Instr.lookup, run_underlying ht, MapKept.run_getObj_map hb, hK.check, h2, h1, Result.andThen]

theorem run_lookup (ht : P.underlying t = some (.map kt et)) (hK : KeyOk P kt kv) {z : Value} (hz : (zeroValue et).run P w = .ok z w)
    (hb : w.heap[b]? = some (.map es clock)) (h : MapIs kv es clock f) (s : K) :
    (Instr.lookup t (.map (some b)) (kv s) false).run P w = .ok ((f s).getD z) w := by
  rcases run_find (w := w) hK h s with ⟨h1, h2⟩ | ⟨j, v, h1, h2, _⟩
  · simp [Instr.lookup, run_underlying ht, MapKept.run_getObj_map hb, hK.check, h2, hz, h1, Result.andThen]
  · simp [Instr.lookup, run_underlying ht, MapKept.run_getObj_map hb, hK.check, h2, h1, Result.andThen]

theorem mapIs_push (h : MapIs kv es clock f) {s : K} (hs : f s = none) (v : Value) :
    MapIs kv (es.push ⟨kv s, v, clock⟩) (clock + 1) (fun d => if d = s then some v else f d) := by
  obtain ⟨L, hE, hf⟩ := h
  rw [hf s, giveOf_none] at hs
  refine ⟨L ++ [(s, v, clock)], ⟨by rw [Array.toList_push, hE.eq]; simp [entryOf], ?_, ?_, ?_⟩, ?_⟩
  · rw [List.map_append, List.nodup_append]
    refine ⟨hE.keys, by simp, ?_⟩
    intro a ha c hc
    simp only [List.map_cons, List.map_nil, List.mem_singleton] at hc
    obtain ⟨x, hx, rfl⟩ := List.mem_map.1 ha
    rw [hc]; exact hs x hx
  · rw [List.map_append, List.nodup_append]
    refine ⟨hE.stamps, by simp, ?_⟩
    intro a ha c hc
    simp only [List.map_cons, List.map_nil, List.mem_singleton] at hc
    obtain ⟨x, hx, rfl⟩ := List.mem_map.1 ha
    have := hE.old x hx
    omega
  · intro x hx
    rcases List.mem_append.1 hx with hx | hx
    · have := hE.old x hx; omega
    · simp only [List.mem_singleton] at hx; subst hx; simp
  · intro d
    show (if d = s then some v else f d) = _
    unfold giveOf
    rw [List.find?_append]
    by_cases e : d = s
    · subst e
      have : L.find? (fun x => decide (x.1 = d)) = none := by rw [List.find?_eq_none]; intro x hx; simpa using hs x hx
      simp [this]
    · rw [if_neg e, hf d]
      unfold giveOf
      have h0 : [(s, v, clock)].find? (fun x => decide (x.1 = d)) = none := by simp; exact fun h => e h.symm
      rw [h0, Option.or_none]

theorem mapIs_set (hK : KeyOk P kt kv) (h : MapIs kv es clock f) {s : K} {j : Nat} {e : MapEntry} (he : es[j]? = some e) (hes : e.key = kv s) (v : Value) :
    MapIs kv (es.modify j fun e => { e with key := kv s, val := v }) clock (fun d => if d = s then some v else f d) := by
  obtain ⟨L, hE, hf⟩ := h
  have hj : ∃ x, L[j]? = some x ∧ entryOf kv x = e := by
    rw [← Array.getElem?_toList, hE.eq, List.getElem?_map] at he
    obtain ⟨x, hx, hxe⟩ := Option.map_eq_some_iff.1 he
    exact ⟨x, hx, hxe⟩
  obtain ⟨x, hx, hxe⟩ := hj
  have hxs : x.1 = s := by rw [← hxe] at hes; exact hK.inj _ _ hes
  have hjl : j < L.length := (List.getElem?_eq_some_iff.1 hx).1
  have hL : ∀ (i : Nat) (y : Ent K), (L.modify j fun y => (y.1, v, y.2.2))[i]? = some y → ∃ z, L[i]? = some z ∧ y = if i = j then (z.1, v, z.2.2) else z := by
    intro i y hy
    rw [List.getElem?_modify] at hy
    obtain ⟨z, hz, hzy⟩ := Option.map_eq_some_iff.1 hy
    refine ⟨z, hz, ?_⟩
    rw [← hzy]
    by_cases g : j = i
    · simp [g]
    · simp [g, Ne.symm g]
  have hk1 : (L.modify j fun y => (y.1, v, y.2.2)).map (fun x => x.1) = L.map fun x => x.1 := by
    apply List.ext_getElem?
    intro i
    rw [List.getElem?_map, List.getElem?_map, List.getElem?_modify]
    cases L[i]? with
    | none => rfl
    | some z => by_cases g : j = i <;> simp [g]
  have hk2 : (L.modify j fun y => (y.1, v, y.2.2)).map (fun x => x.2.2) = L.map fun x => x.2.2 := by
    apply List.ext_getElem?
    intro i
    rw [List.getElem?_map, List.getElem?_map, List.getElem?_modify]
    cases L[i]? with
    | none => rfl
    | some z => by_cases g : j = i <;> simp [g]
  have hEn : Entries kv (es.modify j fun e => { e with key := kv s, val := v }) clock (L.modify j fun y => (y.1, v, y.2.2)) := by
    refine ⟨?_, by rw [hk1]; exact hE.keys, by rw [hk2]; exact hE.stamps, ?_⟩
    · apply List.ext_getElem?
      intro i
      rw [Array.toList_modify, List.getElem?_modify, hE.eq, List.getElem?_map, List.getElem?_map, List.getElem?_modify]
      cases hz : L[i]? with
      | none => rfl
      | some z =>
        by_cases g : j = i
        · subst g
          rw [hx] at hz; cases hz
          simp [entryOf, hxs]
        · simp [g, entryOf]
    · intro y hy
      obtain ⟨i, hi⟩ := List.mem_iff_getElem?.1 hy
      obtain ⟨z, hz, rfl⟩ := hL i y hi
      have := hE.old z (List.mem_of_getElem? hz)
      split <;> exact this
  refine ⟨_, hEn, ?_⟩
  intro d
  show (if d = s then some v else f d) = _
  by_cases e : d = s
  · subst e
    rw [if_pos rfl]
    symm
    rw [giveOf_some hEn.keys]
    refine ⟨x.2.2, List.mem_iff_getElem?.2 ⟨j, ?_⟩⟩
    rw [List.getElem?_modify, hx]; simp [hxs]
  · rw [if_neg e, hf d]
    cases hg : giveOf L d with
    | none =>
      symm
      rw [giveOf_none] at hg ⊢
      intro y hy hyd
      obtain ⟨i, hi⟩ := List.mem_iff_getElem?.1 hy
      obtain ⟨z, hz, rfl⟩ := hL i y hi
      refine hg z (List.mem_of_getElem? hz) ?_
      split at hyd <;> exact hyd
    | some u =>
      symm
      rw [giveOf_some hE.keys] at hg
      rw [giveOf_some hEn.keys]
      obtain ⟨st, hst⟩ := hg
      obtain ⟨i, hi⟩ := List.mem_iff_getElem?.1 hst
      refine ⟨st, List.mem_iff_getElem?.2 ⟨i, ?_⟩⟩
      have hij : j ≠ i := by rintro rfl; rw [hx] at hi; cases hi; exact e hxs
      rw [List.getElem?_modify, hi]; simp [hij]

theorem run_store (ht : P.underlying t = some (.map kt et)) (hK : KeyOk P kt kv)
    (hb : w.heap[b]? = some (.map es clock)) (h : MapIs kv es clock f) (s : K) (v : Value) :
    ∃ es' clock', (Instr.mapUpdate t (.map (some b)) (kv s) v).run P w = .ok () (setBlock w b (.map es' clock')) ∧ MapIs kv es' clock' (fun d => if d = s then some v else f d) := by
  rcases run_find (w := w) hK h s with ⟨h1, h2⟩ | ⟨j, u, h1, h2, e, he, hes⟩
  · refine ⟨_, _, ?_, mapIs_push h h1 v⟩
    simp [Instr.mapUpdate, run_underlying ht, MapKept.run_getObj_map hb, hK.check, h2, MapKept.run_setObj_map _ hb, Result.andThen, setBlock]
  · refine ⟨_, _, ?_, mapIs_set hK h he hes v⟩
    have hkey : ((es[j]?).map (·.key)).getD (kv s) = kv s := by rw [he]; exact hes
    simp only [Instr.mapUpdate, Sem.run_bind, run_underlying ht, MapKept.run_getObj_map hb, hK.check, h2, Result.andThen, hkey, hK.stays, MapKept.run_setObj_map _ hb]
    rfl

/-- a map in memory -/
def HasMap (kv : K → Value) (w : World) (b : Nat) (f : K → Option Value) : Prop := ∃ es clock, w.heap[b]? = some (.map es clock) ∧ MapIs kv es clock f

theorem HasMap.lt (h : HasMap kv w b f) : b < w.heap.size := by obtain ⟨_, _, h, _⟩ := h; exact (Array.getElem?_eq_some_iff.1 h).1
theorem HasMap.kept {w' : World} (h : HasMap kv w b f) (hk : w'.heap[b]? = w.heap[b]?) : HasMap kv w' b f := by
  obtain ⟨es, clock, h1, h2⟩ := h; exact ⟨es, clock, by rw [hk]; exact h1, h2⟩
theorem HasMap.below {w' : World} (h : HasMap kv w b f) (hb : Below w.heap.size w w') : HasMap kv w' b f := h.kept (hb.block b h.lt)
theorem HasMap.look (h : HasMap kv w b f) (ht : P.underlying t = some (.map kt et)) (hK : KeyOk P kt kv) {z : Value} (hz : ∀ w, (zeroValue et).run P w = .ok z w) (s : K) :
    (Instr.lookup t (.map (some b)) (kv s) false).run P w = .ok ((f s).getD z) w := by
  obtain ⟨es, clock, h1, h2⟩ := h; exact run_lookup ht hK (hz w) h1 h2 s
theorem HasMap.look_ok (h : HasMap kv w b f) (ht : P.underlying t = some (.map kt et)) (hK : KeyOk P kt kv) {z : Value} (hz : ∀ w, (zeroValue et).run P w = .ok z w) (s : K) :
    (Instr.lookup t (.map (some b)) (kv s) true).run P w = .ok (.tuple #[(f s).getD z, .bool (f s).isSome]) w := by
  obtain ⟨es, clock, h1, h2⟩ := h; exact run_lookup_ok ht hK (hz w) h1 h2 s
theorem HasMap.store (h : HasMap kv w b f) (ht : P.underlying t = some (.map kt et)) (hK : KeyOk P kt kv) (s : K) (v : Value) :
    ∃ w', (Instr.mapUpdate t (.map (some b)) (kv s) v).run P w = .ok () w' ∧ HasMap kv w' b (fun d => if d = s then some v else f d) ∧ w.grownBy w' (some b) := by
  obtain ⟨es, clock, h1, h2⟩ := h
  obtain ⟨es', clock', hrun, h3⟩ := run_store ht hK h1 h2 s v
  have hlt : b < w.heap.size := (Array.getElem?_eq_some_iff.1 h1).1
  exact ⟨_, hrun, ⟨es', clock', by simp [setBlock, hlt], h3⟩, ⟨rfl, rfl, rfl, by simp [setBlock], fun k _ hk => by
    have : k ≠ b := fun e => hk (by rw [e])
    simp [setBlock, Ne.symm this]⟩⟩
theorem HasMap.new (w : World) (w' : World) (h : w'.heap[b]? = some (.map #[] 0)) : HasMap kv w' b (fun _ => none) := ⟨_, _, h, mapIs_empty⟩
end
end Go.MapG
end
section
set_option linter.unusedSectionVars false
set_option linter.unusedSimpArgs false
set_option linter.unusedVariables false
namespace Go.MapG
open Go.MapKept
open Go.ChangeMaps (setBlock)
open Go.RowKit
section
variable {K : Type} [DecidableEq K] {P : Program} {kv : K → Value} {es : Array MapEntry} {clock : Nat} {L D : List (Ent K)} {bm r : Nat} {w : World}

theorem stamp_unique {L : List (Ent K)} (hk : (L.map fun x => x.2.2).Nodup) {x y : Ent K} (hx : x ∈ L) (hy : y ∈ L) (h : x.2.2 = y.2.2) : x = y := by
  induction L with
  | nil => simp at hx
  | cons a L ih =>
    simp only [List.map_cons, List.nodup_cons] at hk
    rcases List.mem_cons.1 hx with rfl | hx' <;> rcases List.mem_cons.1 hy with rfl | hy'
    · rfl
    · exact (hk.1 (List.mem_map.2 ⟨y, hy', h.symm⟩)).elim
    · exact (hk.1 (List.mem_map.2 ⟨x, hx', h⟩)).elim
    · exact ih hk.2 hx' hy'
theorem nodup_of_stamps {L : List (Ent K)} (hk : (L.map fun x => x.2.2).Nodup) : L.Nodup := by
  induction L with
  | nil => simp
  | cons a L ih =>
    simp only [List.map_cons, List.nodup_cons] at hk ⊢
    exact ⟨fun h => hk.1 (List.mem_map.2 ⟨a, h, rfl⟩), ih hk.2⟩

/-- The map in block bm is gone through by the iterator in block r; D has been handed out. -/
structure Ranged (kv : K → Value) (es : Array MapEntry) (clock : Nat) (L : List (Ent K)) (bm r : Nat) (D : List (Ent K)) (w : World) : Prop where
  src : w.heap[bm]? = some (.map es clock)
  it : w.heap[r]? = some (.mapIter (some bm) clock (D.map fun x => x.2.2).toArray clock)
  sub : ∀ x, x ∈ D → x ∈ L
  nodup : D.Nodup

theorem Ranged.kept {w1 : World} (h : Ranged kv es clock L bm r D w) (h1 : w1.heap[bm]? = w.heap[bm]?) (h2 : w1.heap[r]? = w.heap[r]?) : Ranged kv es clock L bm r D w1 :=
  ⟨h1.trans h.src, h2.trans h.it, h.sub, h.nodup⟩
theorem Ranged.step (hE : Entries kv es clock L) (h : Ranged kv es clock L bm r D w) (ty : TypeId) (hb : bm ≠ r) :
    ((∀ x, x ∈ L → x ∈ D) ∧ (Instr.next (.pointer (some ⟨r, 0, none⟩)) false ty).run P w = .ok (.tuple #[.bool false]) w) ∨
    ∃ x w1, x ∈ L ∧ D.length < L.length ∧ (Instr.next (.pointer (some ⟨r, 0, none⟩)) false ty).run P w = .ok (.tuple #[.bool true, kv x.1, x.2.1]) w1 ∧
      (Instr.entry (.pointer (some ⟨r, 0, none⟩))).run P w1 = .ok (.tuple #[kv x.1, x.2.1]) w1 ∧
      Ranged kv es clock L bm r (D ++ [x]) w1 ∧ w.grownBy w1 (some r) := by
  have hold : ∀ e ∈ es.toList, e.born < clock := by
    intro e he
    rw [hE.eq] at he
    obtain ⟨x, hx, rfl⟩ := List.mem_map.1 he
    exact hE.old x hx
  have hrl : r < w.heap.size := (Array.getElem?_eq_some_iff.1 h.it).1
  rcases run_next_at (P := P) w ty r bm clock clock _ es clock h.it h.src hold (Nat.le_refl _) with ⟨h0, hrun⟩ | ⟨e, he, w1, hw1, hrun⟩
  · refine .inl ⟨fun x hx => ?_, hrun⟩
    have hempty : leftOf es (D.map fun x => x.2.2).toArray = #[] := Array.eq_empty_of_size_eq_zero h0
    have hmem : entryOf kv x ∈ es.toList := by rw [hE.eq]; exact List.mem_map.2 ⟨x, hx, rfl⟩
    unfold leftOf at hempty
    rw [Array.filter_eq_empty_iff] at hempty
    have := hempty (entryOf kv x) (by simpa using hmem)
    simp only [List.contains_toArray, Bool.not_eq_eq_eq_not, Bool.not_true, Bool.not_eq_false, List.contains_iff_mem, List.elem_eq_mem, decide_eq_true_eq] at this
    simp only [Bool.not_eq_true', Bool.not_eq_false, List.contains_eq_mem, decide_eq_true_eq, entryOf] at this
    obtain ⟨y, hy, hyx⟩ := List.mem_map.1 this
    have := stamp_unique hE.stamps (h.sub y hy) hx hyx
    subst this; exact hy
  · right
    have he' : e ∈ es.toList ∧ e.born ∉ D.map fun x => x.2.2 := by
      unfold leftOf at he
      simp only [Array.toList_filter, List.mem_filter] at he
      refine ⟨he.1, ?_⟩
      have := he.2
      simpa using this
    obtain ⟨he1, he2⟩ := he'
    rw [hE.eq] at he1
    obtain ⟨x, hx, rfl⟩ := List.mem_map.1 he1
    have hxD : x ∉ D := fun hm => he2 (List.mem_map.2 ⟨x, hm, rfl⟩)
    have hnd : (D ++ [x]).Nodup := by
      rw [List.nodup_append]
      refine ⟨h.nodup, by simp, ?_⟩
      intro a ha c hc
      simp only [List.mem_singleton] at hc
      subst hc
      exact fun e => hxD (e ▸ ha)
    have hlen : D.length < L.length := by
      have := List.Nodup.length_le_of_subset hnd (l₂ := L) (by
        intro y hy
        rcases List.mem_append.1 hy with hy | hy
        · exact h.sub y hy
        · simp only [List.mem_singleton] at hy; subst hy; exact hx)
      simp at this; omega
    have hw1h : w1.heap = w.heap := by rcases hw1 with rfl | rfl <;> rfl
    generalize hw1' : setBlock w1 r (.mapIter (some bm) clock ((D.map fun x => x.2.2).toArray.push (entryOf kv x).born) clock) = w1' at hrun
    have hat : ∀ k, k ≠ r → w1'.heap[k]? = w.heap[k]? := fun k hk => by rw [← hw1']; simp [setBlock, hw1h, Ne.symm hk]
    have hatr : w1'.heap[r]? = some (.mapIter (some bm) clock ((D.map fun x => x.2.2).toArray.push (entryOf kv x).born) clock) := by rw [← hw1']; simp [setBlock, hw1h, hrl]
    have hsz : w1'.heap.size = w.heap.size := by rw [← hw1']; simp [setBlock, hw1h]
    have hos : w1'.os = w.os ∧ w1'.tape = w.tape ∧ w1'.output = w.output := by rw [← hw1']; rcases hw1 with rfl | rfl <;> exact ⟨rfl, rfl, rfl⟩
    have hent := run_entry_at (P := P) w1' r bm clock _ es clock (entryOf kv x) hatr (by rw [hat _ hb]; exact h.src) (by rw [hE.eq]; exact List.mem_map.2 ⟨x, hx, rfl⟩) (by rw [hE.eq, List.map_map]; exact hE.stamps)
    refine ⟨x, w1', hx, hlen, hrun, hent, ⟨?_, ?_, ?_, hnd⟩, ⟨hos.1, hos.2.1, hos.2.2, by rw [hsz]; exact Nat.le_refl _, fun k _ hk => hat k (fun e => hk (by rw [e]))⟩⟩
    · rw [hat _ hb]; exact h.src
    · rw [hatr]; simp [entryOf]
    · intro y hy
      rcases List.mem_append.1 hy with hy | hy
      · exact h.sub y hy
      · simp only [List.mem_singleton] at hy; subst hy; exact hx
/-- all entries have been handed out -/
theorem Ranged.keys (hE : Entries kv es clock L) (h : Ranged kv es clock L bm r D w) (hall : ∀ x, x ∈ L → x ∈ D) : (D.map fun x => x.1).Nodup ∧ ∀ k, k ∈ D.map (fun x => x.1) ↔ giveOf L k ≠ none := by
  have hp : D.Perm L := (List.perm_ext_iff_of_nodup h.nodup (nodup_of_stamps hE.stamps)).2 fun x => ⟨h.sub x, hall x⟩
  refine ⟨(hp.map _).nodup_iff.2 hE.keys, fun k => ?_⟩
  rw [giveOf_mem, (hp.map fun x : Ent K => x.1).mem_iff]
end
end Go.MapG
end
section
set_option linter.unusedSectionVars false
set_option linter.unusedSimpArgs false
set_option linter.unusedVariables false
namespace Go.Proofs.YtbakoigejihnaaaGreatDoor.Wp
open Go.RowKit Go.MapG Go.MapKept Go.Proofs.YtbakoigejihnaaaGreatDoorW.PrintWords Go.Proofs.YtbakoigejihnaaaGreatDoorW.PrintLast Go.Proofs.YtbakoigejihnaaaGreatDoorW.PrintMore
open Kl (Diag Cl)

abbrev TD : TypeId := 145
abbrev TC : TypeId := 37
def kvD (d : Diag) : Value := .agg #[.int .i64 (d.1 : Nat), .int .i64 (d.2.1 : Nat), .int .i64 d.2.2]
def kvC (c : Cl) : Value := .agg #[.int .i64 (c.A : Nat), .int .i64 (c.AtA : Nat), .int .i64 (c.B : Nat), .int .i64 (c.AtB : Nat), .int .i64 (c.Len : Nat)]

theorem eqD (d : Nat) (w : World) (x0 y0 x1 y1 x2 y2 : Int) :
    (Op.equalIn (d + 2) TD (.agg #[.int .i64 x0, .int .i64 x1, .int .i64 x2]) (.agg #[.int .i64 y0, .int .i64 y1, .int .i64 y2])).run Tryz.prog w = .ok (x0 == y0 && (x1 == y1 && (x2 == y2))) w := by
  refine eqA_of Tryz.underlying145 (by kernel_rfl) ?_
  refine eqf_cons (by rfl) (by go_simp; rfl) (by go_simp; rfl) (by go_simp) ?_
  refine eqf_cons (by rfl) (by go_simp; rfl) (by go_simp; rfl) (by go_simp) ?_
  exact eqf_last (by rfl) (by go_simp; rfl) (by go_simp; rfl) (by go_simp)

theorem eqC (d : Nat) (w : World) (x0 y0 x1 y1 x2 y2 x3 y3 x4 y4 : Int) :
    (Op.equalIn (d + 2) TC (.agg #[.int .i64 x0, .int .i64 x1, .int .i64 x2, .int .i64 x3, .int .i64 x4]) (.agg #[.int .i64 y0, .int .i64 y1, .int .i64 y2, .int .i64 y3, .int .i64 y4])).run Tryz.prog w = .ok (x0 == y0 && (x1 == y1 && (x2 == y2 && (x3 == y3 && (x4 == y4))))) w := by
  refine eqA_of Tryz.underlying37 (by kernel_rfl) ?_
  refine eqf_cons (by rfl) (by go_simp; rfl) (by go_simp; rfl) (by go_simp) ?_
  refine eqf_cons (by rfl) (by go_simp; rfl) (by go_simp; rfl) (by go_simp) ?_
  refine eqf_cons (by rfl) (by go_simp; rfl) (by go_simp; rfl) (by go_simp) ?_
  refine eqf_cons (by rfl) (by go_simp; rfl) (by go_simp; rfl) (by go_simp) ?_
  exact eqf_last (by rfl) (by go_simp; rfl) (by go_simp; rfl) (by go_simp)

theorem cast_beq (a b : Nat) : ((a : Int) == (b : Int)) = decide (a = b) := by
  rw [Bool.eq_iff_iff, beq_iff_eq, decide_eq_true_eq]; omega

theorem keyD : KeyOk Tryz.prog TD kvD := by
  refine keyOk_wide (by rw [Tryz.underlying145]) ?_ ?_ ?_ ?_
  · rintro ⟨a, b, c⟩ ⟨a', b', c'⟩ h
    simp only [kvD, Value.agg.injEq] at h
    injection h with h
    injection h with h1 h
    injection h with h2 h
    injection h with h3 h
    injection h1 with _ h1
    injection h2 with _ h2
    injection h3 with _ h3
    simp only [Prod.mk.injEq]
    exact ⟨by omega, by omega, h3⟩
  · intro w em k
    unfold kvD
    have hint := fun (n : Nat) (a : Int) => run_checkKey (P := Tryz.prog) (w := w) (k := .int .i64 a) Tryz.underlying3 (by simp [IsKey]) em n
    rw [show (10000 : Nat) = 9998 + 1 + 1 from rfl, Instr.checkKey]
    generalize (9998 : Nat) = N at *
    simp only [Sem.run_bind, run_underlying Tryz.underlying145, Result.andThen]
    have p0 : (part 3 #[Value.int IntKind.i64 (k.1 : Nat), Value.int IntKind.i64 (k.2.1 : Nat), Value.int IntKind.i64 k.2.2] 0).run Tryz.prog w = .ok (Value.int IntKind.i64 (k.1 : Nat)) w := by go_simp
    have p1 : (part 3 #[Value.int IntKind.i64 (k.1 : Nat), Value.int IntKind.i64 (k.2.1 : Nat), Value.int IntKind.i64 k.2.2] 1).run Tryz.prog w = .ok (Value.int IntKind.i64 (k.2.1 : Nat)) w := by go_simp
    have p2 : (part 3 #[Value.int IntKind.i64 (k.1 : Nat), Value.int IntKind.i64 (k.2.1 : Nat), Value.int IntKind.i64 k.2.2] 2).run Tryz.prog w = .ok (Value.int IntKind.i64 k.2.2) w := by go_simp
    simp [p0, p1, p2, hint, Result.andThen]
  · intro k
    simp [kvD, Instr.sameBits]
  · rintro w ⟨a, b, c⟩ ⟨a', b', c'⟩
    show (Op.equalIn (9998 + 2) TD (.agg #[.int .i64 (a : Nat), .int .i64 (b : Nat), .int .i64 c]) (.agg #[.int .i64 (a' : Nat), .int .i64 (b' : Nat), .int .i64 c'])).run Tryz.prog w = _
    rw [eqD, cast_beq, cast_beq]
    congr 1
    rw [Bool.eq_iff_iff]
    simp

theorem keyC : KeyOk Tryz.prog TC kvC := by
  refine keyOk_wide (by rw [Tryz.underlying37]) ?_ ?_ ?_ ?_
  · rintro ⟨a, b, c, d, e⟩ ⟨a', b', c', d', e'⟩ h
    simp only [kvC, Value.agg.injEq] at h
    injection h with h
    injection h with h1 h
    injection h with h2 h
    injection h with h3 h
    injection h with h4 h
    injection h with h5 h
    injection h1 with _ h1
    injection h2 with _ h2
    injection h3 with _ h3
    injection h4 with _ h4
    injection h5 with _ h5
    simp only [Cl.mk.injEq]
    exact ⟨by omega, by omega, by omega, by omega, by omega⟩
  · intro w em k
    unfold kvC
    have hint := fun (n : Nat) (a : Int) => run_checkKey (P := Tryz.prog) (w := w) (k := .int .i64 a) Tryz.underlying3 (by simp [IsKey]) em n
    rw [show (10000 : Nat) = 9998 + 1 + 1 from rfl, Instr.checkKey]
    generalize (9998 : Nat) = N at *
    simp only [Sem.run_bind, run_underlying Tryz.underlying37, Result.andThen]
    generalize ((k.A : Nat) : Int) = a0
    generalize ((k.AtA : Nat) : Int) = a1
    generalize ((k.B : Nat) : Int) = a2
    generalize ((k.AtB : Nat) : Int) = a3
    generalize ((k.Len : Nat) : Int) = a4
    have p0 : (part 3 #[Value.int IntKind.i64 a0, Value.int IntKind.i64 a1, Value.int IntKind.i64 a2, Value.int IntKind.i64 a3, Value.int IntKind.i64 a4] 0).run Tryz.prog w = .ok (Value.int IntKind.i64 a0) w := by go_simp
    have p1 : (part 3 #[Value.int IntKind.i64 a0, Value.int IntKind.i64 a1, Value.int IntKind.i64 a2, Value.int IntKind.i64 a3, Value.int IntKind.i64 a4] 1).run Tryz.prog w = .ok (Value.int IntKind.i64 a1) w := by go_simp
    have p2 : (part 3 #[Value.int IntKind.i64 a0, Value.int IntKind.i64 a1, Value.int IntKind.i64 a2, Value.int IntKind.i64 a3, Value.int IntKind.i64 a4] 2).run Tryz.prog w = .ok (Value.int IntKind.i64 a2) w := by go_simp
    have p3 : (part 3 #[Value.int IntKind.i64 a0, Value.int IntKind.i64 a1, Value.int IntKind.i64 a2, Value.int IntKind.i64 a3, Value.int IntKind.i64 a4] 3).run Tryz.prog w = .ok (Value.int IntKind.i64 a3) w := by go_simp
    have p4 : (part 3 #[Value.int IntKind.i64 a0, Value.int IntKind.i64 a1, Value.int IntKind.i64 a2, Value.int IntKind.i64 a3, Value.int IntKind.i64 a4] 4).run Tryz.prog w = .ok (Value.int IntKind.i64 a4) w := by go_simp
    simp [p0, p1, p2, p3, p4, hint, Result.andThen]
  · intro k
    simp [kvC, Instr.sameBits]
  · rintro w ⟨a, b, c, d, e⟩ ⟨a', b', c', d', e'⟩
    show (Op.equalIn (9998 + 2) TC (.agg #[.int .i64 (a : Nat), .int .i64 (b : Nat), .int .i64 (c : Nat), .int .i64 (d : Nat), .int .i64 (e : Nat)]) (.agg #[.int .i64 (a' : Nat), .int .i64 (b' : Nat), .int .i64 (c' : Nat), .int .i64 (d' : Nat), .int .i64 (e' : Nat)])).run Tryz.prog w = _
    rw [eqC, cast_beq, cast_beq, cast_beq, cast_beq, cast_beq]
    congr 1
    rw [Bool.eq_iff_iff]
    simp

/-- what the maps hold -/
def seenF (S : Kl.Fin) (d : Diag) : Option Value := (S.seen d).map fun n => .int .i64 (n : Nat)
def foundF (S : Kl.Fin) (c : Cl) : Option Value := (S.found c).map fun _ => .agg #[]

/-- the finder f as it lies in w: the struct in block bf, its maps in bs and bo -/
structure FinRep (w : World) (bf bs bo : Nat) (A : Option Addr) (n c : Nat) (least : Nat) (S : Kl.Fin) : Prop where
  head : w.heap[bf]? = some (.cells #[.slice A n c, .int .i64 (least : Nat), .map (some bs), .map (some bo)] 110 (0, 0))
  seen : HasMap kvD w bs (seenF S)
  found : HasMap kvC w bo (foundF S)
  ne : bs ≠ bo
section
variable {w : World} {bf bs bo : Nat} {A : Option Addr} {n c least : Nat} {S : Kl.Fin}
theorem FinRep.cell (h : FinRep w bf bs bo A n c least S) : w.cell? ⟨bf, 0, none⟩ = some (.slice A n c) ∧ w.cell? ⟨bf, 1, none⟩ = some (.int .i64 (least : Nat)) ∧ w.cell? ⟨bf, 2, none⟩ = some (.map (some bs)) ∧ w.cell? ⟨bf, 3, none⟩ = some (.map (some bo)) :=
  ⟨World.news_of_block h.head 0 _ rfl, World.news_of_block h.head 1 _ rfl, World.news_of_block h.head 2 _ rfl, World.news_of_block h.head 3 _ rfl⟩
theorem FinRep.lt (h : FinRep w bf bs bo A n c least S) : bf < w.heap.size ∧ bs < w.heap.size ∧ bo < w.heap.size := ⟨(Array.getElem?_eq_some_iff.1 h.head).1, h.seen.lt, h.found.lt⟩
theorem FinRep.below {w' : World} (h : FinRep w bf bs bo A n c least S) (hb : Below w.heap.size w w') : FinRep w' bf bs bo A n c least S :=
  ⟨by rw [hb.block bf h.lt.1]; exact h.head, h.seen.below hb, h.found.below hb, h.ne⟩
theorem FinRep.kept {w' : World} {X : Nat → Prop} (h : FinRep w bf bs bo A n c least S) (hk : Kept w w' X) (h1 : ¬ X bf) (h2 : ¬ X bs) (h3 : ¬ X bo) : FinRep w' bf bs bo A n c least S :=
  ⟨by rw [hk.2 bf h.lt.1 h1]; exact h.head, h.seen.kept (hk.2 bs h.lt.2.1 h2), h.found.kept (hk.2 bo h.lt.2.2 h3), h.ne⟩
theorem FinRep.bf_ne (h : FinRep w bf bs bo A n c least S) : bf ≠ bs ∧ bf ≠ bo := by
  obtain ⟨_, _, h1, _⟩ := h.seen
  obtain ⟨_, _, h2, _⟩ := h.found
  refine ⟨fun e => ?_, fun e => ?_⟩
  · rw [← e, h.head] at h1; cases h1
  · rw [← e, h.head] at h2; cases h2
/-- a diagonal is looked at -/
theorem FinRep.storeD (h : FinRep w bf bs bo A n c least S) (d : Diag) (m : Nat) :
    ∃ w', (Instr.mapUpdate 107 (.map (some bs)) (kvD d) (.int .i64 (m : Nat))).run Tryz.prog w = .ok () w' ∧ FinRep w' bf bs bo A n c least ⟨fun e => if e = d then some m else S.seen e, S.found⟩ ∧ w.grownBy w' (some bs) := by
  obtain ⟨w', h1, h2, h3⟩ := h.seen.store Tryz.underlying107 keyD d (.int .i64 (m : Nat))
  refine ⟨w', h1, ⟨?_, ?_, ?_, h.ne⟩, h3⟩
  · rw [h3.block bf h.lt.1 (by simpa using h.bf_ne.1)]; exact h.head
  · have e : (fun e => if e = d then some (Value.int .i64 (m : Nat)) else seenF S e) = seenF ⟨fun e => if e = d then some m else S.seen e, S.found⟩ := by
      funext e
      unfold seenF
      by_cases g : e = d <;> simp [g]
    rw [e] at h2; exact h2
  · exact h.found.kept (h3.block bo h.lt.2.2 (by simpa using h.ne.symm))
/-- a clone is found -/
theorem FinRep.storeC (h : FinRep w bf bs bo A n c least S) (k : Cl) :
    ∃ w', (Instr.mapUpdate 108 (.map (some bo)) (kvC k) (.agg #[])).run Tryz.prog w = .ok () w' ∧ FinRep w' bf bs bo A n c least ⟨S.seen, fun e => if e = k then some () else S.found e⟩ ∧ w.grownBy w' (some bo) := by
  obtain ⟨w', h1, h2, h3⟩ := h.found.store Tryz.underlying108 keyC k (.agg #[])
  refine ⟨w', h1, ⟨?_, ?_, ?_, h.ne⟩, h3⟩
  · rw [h3.block bf h.lt.1 (by simpa using h.bf_ne.2)]; exact h.head
  · exact h.seen.kept (h3.block bs h.lt.2.1 (by simpa using h.ne))
  · have e : (fun e => if e = k then some (Value.agg #[]) else foundF S e) = foundF ⟨S.seen, fun e => if e = k then some () else S.found e⟩ := by
      funext e
      unfold foundF
      by_cases g : e = k <;> simp [g]
    rw [e] at h2; exact h2
theorem FinRep.look (h : FinRep w bf bs bo A n c least S) (d : Diag) : (Instr.lookup 107 (.map (some bs)) (kvD d) false).run Tryz.prog w = .ok (.int .i64 (((S.seen d).getD 0 : Nat) : Int)) w := by
  have hz : ∀ w, (zeroValue 3).run Tryz.prog w = .ok (.int .i64 0) w := fun w => by kernel_rfl
  have := h.seen.look (P := Tryz.prog) Tryz.underlying107 keyD hz d
  rw [this]
  unfold seenF
  cases S.seen d <;> rfl
end
end Go.Proofs.YtbakoigejihnaaaGreatDoor.Wp
end
section
set_option linter.unusedSectionVars false
set_option linter.unusedSimpArgs false
set_option linter.unusedVariables false
namespace Go.Proofs.YtbakoigejihnaaaGreatDoor.Wp
open Go.RowKit Go.MapG Go.MapKept Go.Proofs.YtbakoigejihnaaaGreatDoorW.PrintWords Go.Proofs.YtbakoigejihnaaaGreatDoorW.PrintLast Go.Proofs.YtbakoigejihnaaaGreatDoorW.PrintMore
open Kl (Diag Cl Plc diag toOf fromOf runAt)
open Ref (Lx txt txt_length)

/-- the words of texts -/
def tw (T : List Tx) : List (List ByteArray) := T.map fun t => txt t.f1
theorem tw_get (T : List Tx) {i : Nat} (hi : i < T.length) : (tw T).getD i [] = txt T[i].f1 := by
  unfold tw
  rw [List.getD_eq_getElem?_getD, List.getElem?_map, List.getElem?_eq_getElem hi]; rfl
theorem tw_length (T : List Tx) : (tw T).length = T.length := by simp [tw]

/-- a word of a text in memory -/
theorem at_word {w : World} {A : Option Addr} {l : List Lx} (h : Kd.C kLx w A l.length l) {i : Nat} (hi : i < l.length) : ∃ ad, A = some ad ∧ w.cell? (ad.add (i * 2)) = some (.string ((txt l).getD i ByteArray.empty)) := by
  obtain ⟨ad, e, h0, _⟩ := Ref.at_T35 h (i : Int) (by omega) (by omega)
  rw [Int.toNat_natCast, Ref.rd_txt hi] at h0
  exact ⟨ad, e, h0⟩

theorem same_words {a b : List ByteArray} {i j : Nat} (hi : i < a.length) (hj : j < b.length) : Kl.Same a i b j ↔ a.getD i ByteArray.empty = b.getD j ByteArray.empty := by
  unfold Kl.Same
  rw [List.getElem?_eq_getElem hi, List.getElem?_eq_getElem hj, List.getD_eq_getElem?_getD, List.getD_eq_getElem?_getD, List.getElem?_eq_getElem hi, List.getElem?_eq_getElem hj]
  simp [hi, hj]

/-- what a call of look leaves -/
def LookPost (w : World) (B bf bs bo : Nat) (A : Option Addr) (n c least : Nat) (S : Kl.Fin) (e : Ending) (w' : World) : Prop :=
  e = .returned (.tuple #[]) ∧ FinRep w' bf bs bo A n c least S ∧ Below B w w' ∧ Kept w w' (fun k => k = bs ∨ k = bo)

theorem bytes_inj {a b : ByteArray} : a.toList = b.toList ↔ a = b := by
  constructor
  · intro h
    rw [ByteArray.toList_eq, ByteArray.toList_eq] at h
    exact ByteArray.ext (Array.toList_inj.mp h)
  · rintro rfl; rfl

theorem region_tail {P : Program} {id : Nat} {Q : Exit → Act → World → Prop} {a : Act} {w : World} {l : List Oper} (n : Nat) (hm : P.follows .mixedOrders = true) (hB : Region.lexTailB .any l.toArray n = true)
    (h : ∀ u, u = w.drewN 1 → wpStill P l.toArray u (fun a' => wpList P l.toArray Q (l.drop n) a' u) (l.take n) a) : (Code.region id l.toArray true).wp P Q a w :=
  wp_region_still_tail n hm hB (h _ rfl)

set_option maxHeartbeats 8000000 in
set_option maxRecDepth 100000 in
theorem look_calls (T : List Tx) (A : Option Addr) (c least : Nat) (S : Kl.Fin) (w0 w : World) (bf bs bo : Nat) (h : FinRep w bf bs bo A T.length c least S) (hC0 : Kd.C kTx w0 A T.length T) (hB0 : Below w0.heap.size w0 w) (hs0 : w0.heap.size ≤ bs) (ho0 : w0.heap.size ≤ bo)
    (x y : Plc) (hx : x.text < T.length) (hy : y.text < T.length) (hxa : x.at_ < (T[x.text]'hx).f1.length) (hya : y.at_ < (T[y.text]'hy).f1.length) (hS : ∀ t, t ∈ T → t.f1.length ≤ 1000000) (hT : T.length ≤ 1000000) (hleast : least ≤ 1000000) :
    Calls Tryz.prog 53 #[.pointer (some ⟨bf, 0, none⟩), .agg #[.int .i64 (x.text : Nat), .int .i64 (x.at_ : Nat)], .agg #[.int .i64 (y.text : Nat), .int .i64 (y.at_ : Nat)]] w
      (LookPost w w0.heap.size bf bs bo A T.length c least (Kl.look (tw T) least S (x, y))) := by
  obtain ⟨xt, xa⟩ := x
  obtain ⟨yt, ya⟩ := y
  simp only at hx hy hxa hya ⊢
  have hla := hS _ (List.getElem_mem hx)
  have hlb := hS _ (List.getElem_mem hy)
  have HS := Aside0.mk hS
  have H := Aside0.mk h
  have HC := Aside0.mk hC0
  have HB := Aside0.mk hB0
  clear h hC0 hB0 hS
  go_enter Tryz.func53, Tryz.ntmps53
  go_wp2_with fail
  obtain ⟨W3, hW3⟩ : ∃ W3, W3 = (((w.alloc (.cells #[.int .i64 (xt : Nat), .int .i64 (xa : Nat)] 115)).alloc (.cells #[.int .i64 (yt : Nat), .int .i64 (ya : Nat)] 115)).alloc (.cells #[.int .i64 (xt : Nat), .int .i64 (yt : Nat), .int .i64 ((ya : Nat) - (xa : Nat) : Int)] 145)) := ⟨_, rfl⟩
  rw [← hW3]
  have hb3 : Below w.heap.size w W3 := by rw [hW3]; exact (((Below.refl _ _).alloc (Nat.le_refl _) _).alloc (by simp) _).alloc (by simp; omega) _
  have hx3 : W3.heap[w.heap.size]? = some (.cells #[.int .i64 (xt : Nat), .int .i64 (xa : Nat)] 115 (0, 0)) := by
    rw [hW3, heap_alloc_old _ _ (by simp; omega), heap_alloc_old _ _ (by simp)]; exact heap_alloc_new _ _
  have hy3 : W3.heap[w.heap.size + 1]? = some (.cells #[.int .i64 (yt : Nat), .int .i64 (ya : Nat)] 115 (0, 0)) := by
    rw [hW3, heap_alloc_old _ _ (by simp)]
    have := heap_alloc_new (w.alloc (.cells #[.int .i64 (xt : Nat), .int .i64 (xa : Nat)] 115)) (.cells #[.int .i64 (yt : Nat), .int .i64 (ya : Nat)] 115)
    rwa [show (w.alloc (.cells #[.int .i64 (xt : Nat), .int .i64 (xa : Nat)] 115)).heap.size = w.heap.size + 1 from by simp] at this
  have hd3 : W3.heap[w.heap.size + 1 + 1]? = some (.cells #[.int .i64 (xt : Nat), .int .i64 (yt : Nat), .int .i64 ((ya : Nat) - (xa : Nat) : Int)] 145 (0, 0)) := by
    rw [hW3]
    have := heap_alloc_new ((w.alloc (.cells #[.int .i64 (xt : Nat), .int .i64 (xa : Nat)] 115)).alloc (.cells #[.int .i64 (yt : Nat), .int .i64 (ya : Nat)] 115)) (.cells #[.int .i64 (xt : Nat), .int .i64 (yt : Nat), .int .i64 ((ya : Nat) - (xa : Nat) : Int)] 145)
    rwa [show ((w.alloc (.cells #[.int .i64 (xt : Nat), .int .i64 (xa : Nat)] 115)).alloc (.cells #[.int .i64 (yt : Nat), .int .i64 (ya : Nat)] 115)).heap.size = w.heap.size + 1 + 1 from by simp] at this
  clear hW3
  have x0 : W3.cell? ⟨w.heap.size, 0, none⟩ = some (.int .i64 (xt : Nat)) := World.news_of_block hx3 0 _ rfl
  have x1 : W3.cell? ⟨w.heap.size, 1, none⟩ = some (.int .i64 (xa : Nat)) := World.news_of_block hx3 1 _ rfl
  have y0 : W3.cell? ⟨w.heap.size + 1, 0, none⟩ = some (.int .i64 (yt : Nat)) := World.news_of_block hy3 0 _ rfl
  have y1 : W3.cell? ⟨w.heap.size + 1, 1, none⟩ = some (.int .i64 (ya : Nat)) := World.news_of_block hy3 1 _ rfl
  have d0 : W3.cell? ⟨w.heap.size + 1 + 1, 0, none⟩ = some (.int .i64 (xt : Nat)) := World.news_of_block hd3 0 _ rfl
  have d1 : W3.cell? ⟨w.heap.size + 1 + 1, 0 + 1, none⟩ = some (.int .i64 (yt : Nat)) := World.news_of_block hd3 1 _ rfl
  have d2 : W3.cell? ⟨w.heap.size + 1 + 1, 0 + 1 + 1, none⟩ = some (.int .i64 ((ya : Nat) - (xa : Nat) : Int)) := World.news_of_block hd3 2 _ rfl
  have d1' : W3.cell? ⟨w.heap.size + 1 + 1, 1, none⟩ = some (.int .i64 (yt : Nat)) := d1
  have d2' : W3.cell? ⟨w.heap.size + 1 + 1, 2, none⟩ = some (.int .i64 ((ya : Nat) - (xa : Nat) : Int)) := d2
  clear hx3 hy3 hd3
  have H3 := Aside0.mk (H.out.below hb3)
  have HB3 := Aside0.mk (HB.out.trans (hb3.mono HB.out.size))
  have HK3 := Aside0.mk (Kept.of_below hb3 (fun k => k = bs ∨ k = bo))
  have HBb := Aside0.mk (hb3.mono HB.out.size)
  have HZ := Aside0.mk hb3.size
  clear hb3
  obtain ⟨f0, f1, f2, f3⟩ := H3.out.cell
  have hl0 := fun (n : Nat) => (H3.out.below (⟨rfl, rfl, rfl, Nat.le_refl _, fun _ _ => rfl⟩ : Below W3.heap.size W3 (W3.drewN n))).look (diag ⟨xt, xa⟩ ⟨yt, ya⟩)
  have hl : ∀ n : Nat, (Instr.lookup 107 (.map (some bs)) (.agg #[.int .i64 (xt : Nat), .int .i64 (yt : Nat), .int .i64 ((ya : Nat) - (xa : Nat) : Int)]) false).run Tryz.prog (W3.drewN n) = .ok (.int .i64 (((S.seen (diag ⟨xt, xa⟩ ⟨yt, ya⟩)).getD 0 : Nat) : Int)) (W3.drewN n) := hl0
  clear hl0
  have HLook : Aside0 (Kl.look (tw T) least S (⟨xt, xa⟩, ⟨yt, ya⟩) = if xa < (S.seen (diag ⟨xt, xa⟩ ⟨yt, ya⟩)).getD 0 then S
    else ⟨fun d => if d = diag ⟨xt, xa⟩ ⟨yt, ya⟩ then some (xa + max (toOf (tw T) ⟨xt, xa⟩ ⟨yt, ya⟩) 1) else S.seen d,
      fun c => if least ≤ (runAt (tw T) ⟨xt, xa⟩ ⟨yt, ya⟩).Len ∧ 0 < toOf (tw T) ⟨xt, xa⟩ ⟨yt, ya⟩ ∧ c = runAt (tw T) ⟨xt, xa⟩ ⟨yt, ya⟩ then some () else S.found c⟩) := ⟨rfl⟩
  generalize (S.seen (diag ⟨xt, xa⟩ ⟨yt, ya⟩)).getD 0 = sd at hl HLook
  by_cases hsd : xa < sd
  · have b1 : decide ((xa : Int) < (sd : Int)) = true := by simp; omega
    go_quiet (fail)
    go_wp2
    go_end0
    refine ⟨rfl, ?_, ?_, ?_⟩
    · rw [HLook.out, if_pos hsd]
      exact H3.out.below (⟨rfl, rfl, rfl, Nat.le_refl _, fun _ _ => rfl⟩)
    · exact HBb.out.trans ⟨rfl, rfl, rfl, Nat.le_refl _, fun _ _ => rfl⟩
    · exact HK3.out.below (⟨rfl, rfl, rfl, Nat.le_refl _, fun _ _ => rfl⟩)
  · have b1 : decide ((xa : Int) < (sd : Int)) = false := by simp; omega
    go_quiet (fail)
    obtain ⟨ad, A1, c1, eA, -, p1, hc1, hC1⟩ := at_tx HC.out hx
    subst eA
    obtain ⟨ad', A2, c2, eA, -, p2, hc2, hC2⟩ := at_tx HC.out hy
    replace p1 := (HB3.out.cell (World.block_lt_of_cell? _ _ p1)).trans p1
    replace p2 := (HB3.out.cell (World.block_lt_of_cell? _ _ p2)).trans p2
    obtain rfl : ad = ad' := by injection eA
    clear eA
    have HL1 := Aside0.mk (rfl : T[xt].f1 = T[xt].f1)
    have G1 : Aside0 ((tw T).getD xt [] = txt T[xt].f1) := ⟨tw_get T hx⟩
    have G2 : Aside0 ((tw T).getD yt [] = txt T[yt].f1) := ⟨tw_get T hy⟩
    generalize T[xt].f1 = lx at p1 hc1 hC1 hxa hla G1
    generalize T[yt].f1 = ly at p2 hc2 hC2 hya hlb G2
    have HC1 := Aside0.mk hC1
    have HC2 := Aside0.mk hC2
    clear hC1 hC2 HL1
    go_wp2_with fail
    go_quiet (fail)
    go_wp2_with fail
    have HF : Aside0 (toOf (tw T) ⟨xt, xa⟩ ⟨yt, ya⟩ = Kl.fwd (txt lx) xa (txt ly) ya) := ⟨by unfold toOf; rw [G1.out, G2.out]⟩
    have HFr : Aside0 (fromOf (tw T) ⟨xt, xa⟩ ⟨yt, ya⟩ = Kl.bwd (txt lx) xa (txt ly) ya) := ⟨by unfold fromOf; rw [G1.out, G2.out]⟩
    have hlx : (txt lx).length = lx.length := txt_length lx
    have hly : (txt ly).length = ly.length := txt_length ly
    have hF := Kl.lcp_le ((txt lx).drop xa) ((txt ly).drop ya)
    rw [List.length_drop, List.length_drop, hlx, hly] at hF
    change Kl.fwd (txt lx) xa (txt ly) ya ≤ _ ∧ Kl.fwd (txt lx) xa (txt ly) ya ≤ _ at hF
    have hG := Kl.bwd_le (a := txt lx) (b := txt ly) (i := xa) (j := ya)
    have HFs : Aside0 (∀ t, t < Kl.fwd (txt lx) xa (txt ly) ya → Kl.Same (txt lx) (xa + t) (txt ly) (ya + t)) := ⟨fun t => Kl.fwd_same⟩
    have HFx : Aside0 (¬ Kl.Same (txt lx) (xa + Kl.fwd (txt lx) xa (txt ly) ya) (txt ly) (ya + Kl.fwd (txt lx) xa (txt ly) ya)) := ⟨Kl.fwd_stop⟩
    have HGs : Aside0 (∀ t, t < Kl.bwd (txt lx) xa (txt ly) ya → Kl.Same (txt lx) (xa - 1 - t) (txt ly) (ya - 1 - t)) := ⟨fun t => Kl.bwd_same (by omega) (by omega)⟩
    have HGx : Aside0 (Kl.bwd (txt lx) xa (txt ly) ya < xa → Kl.bwd (txt lx) xa (txt ly) ya < ya → ¬ Kl.Same (txt lx) (xa - 1 - Kl.bwd (txt lx) xa (txt ly) ya) (txt ly) (ya - 1 - Kl.bwd (txt lx) xa (txt ly) ya)) := ⟨Kl.bwd_stop (by omega) (by omega)⟩
    generalize Kl.fwd (txt lx) xa (txt ly) ya = F at HF hF HFs HFx
    generalize Kl.bwd (txt lx) xa (txt ly) ya = G at HFr hG HGs HGx
    have HS1 : Aside0 (∀ i j, i < lx.length → j < ly.length → (Kl.Same (txt lx) i (txt ly) j ↔ (txt lx).getD i ByteArray.empty = (txt ly).getD j ByteArray.empty)) := ⟨fun i j h1 h2 => same_words (by omega) (by omega)⟩
    have HLx := Aside0.mk hlx
    have HLy := Aside0.mk hly
    clear hlx hly
    go_loopg [10] F (fun gg v10 wr => ∃ i m : Nat, v10 = .int .i64 i ∧ wr = W3.drewN m ∧ Aside0 (i + gg = F))
    case atStart => exact ⟨0, _, rfl, World.drewN_drewN _ _ _, ⟨by omega⟩⟩
    case round =>
      obtain ⟨i, m, rfl, rfl, HK⟩ := hrel
      go_upto_region 5 with fail
      go_cut [82] from 48 to 84 (fun v82 wx => v82 = .bool (decide (i < F)) ∧ ∃ m', wx = W3.drewN m')
      case first =>
        have HFs' := HFs.out i
        have HFx' := Aside0.mk HFx.out
        have HiF : Aside0 (i ≤ F) := ⟨by have := HK.out; omega⟩
        by_cases c1 : xa + i < lx.length
        · have k1 : decide ((xa : Int) + (i : Int) < (lx.length : Int)) = true := by simp; omega
          by_cases c2 : ya + i < ly.length
          · have k2 : decide ((ya : Int) + (i : Int) < (ly.length : Int)) = true := by simp; omega
            obtain ⟨ad1, e1, q1⟩ := at_word (Kd.C_below HC1.out HB3.out) c1
            subst e1
            obtain ⟨ad2, e2, q2⟩ := at_word (Kd.C_below HC2.out HB3.out) c2
            subst e2
            have HW := Aside0.mk (HS1.out _ _ c1 c2)
            generalize (txt lx).getD (xa + i) ByteArray.empty = s1 at q1 HW
            generalize (txt ly).getD (ya + i) ByteArray.empty = s2 at q2 HW
            have HV : Aside0 ((s1.toList == s2.toList) = decide (i < F)) := ⟨by
              have hi := HiF.out
              rw [Bool.eq_iff_iff, decide_eq_true_eq, beq_iff_eq]
              constructor
              · intro g
                rcases Nat.lt_or_ge i F with g' | g'
                · exact g'
                · obtain rfl : i = F := by omega
                  exact absurd (HW.out.2 (bytes_inj.1 g)) HFx'.out
              · intro g
                rw [HW.out.1 (HFs' g)]⟩
            clear HFs'
            generalize hv : (s1.toList == s2.toList) = bb at HV
            go_quiet (fail)
            go_wp2
            go_meet
            exact ⟨by rw [HV.out], _, World.drewN_drewN _ _ _⟩
          · have k2 : decide ((ya : Int) + (i : Int) < (ly.length : Int)) = false := by simp; omega
            have HD : Aside0 (decide (i < F) = false) := ⟨by simp; omega⟩
            clear HFs'
            go_quiet (fail)
            go_wp2
            go_meet
            exact ⟨by rw [HD.out], _, World.drewN_drewN _ _ _⟩
        · have k1 : decide ((xa : Int) + (i : Int) < (lx.length : Int)) = false := by simp; omega
          have HD : Aside0 (decide (i < F) = false) := ⟨by simp; omega⟩
          clear HFs'
          have hiF := HiF.out
          go_quiet (fail)
          go_wp2
          go_meet
          exact ⟨by rw [HD.out], _, World.drewN_drewN _ _ _⟩
      case rest =>
        obtain ⟨rfl, m', rfl⟩ := hcut
        by_cases hi : i < F
        · have HI := Aside0.mk hi
          have hid : decide (i < F) = true := by simp; omega
          rw [hid]
          clear hid
          go_wp2_with fail
          have := HI.out
          have := HK.out
          go_roundg (gk - 1)
          case measure => omega
          case rel => exact ⟨i + 1, m', by go_num, rfl, ⟨by have := HI.out; have := HK.out; omega⟩⟩
        · have hid : decide (i < F) = false := by simp; omega
          rw [hid]
          obtain rfl : i = F := by have := HK.out; omega
          clear hid hi
          go_wp2_with fail
          refine region_tail 10 (by kernel_rfl) (by kernel_rfl) ?_
          intro W4 hW4
          simp only [List.take_succ_cons, List.take_zero, List.drop_succ_cons, List.drop_zero]
          have near : W4 = W3.drewN (m' + 1) := by rw [hW4, World.drewN_drewN]
          have hb4 : Below W3.heap.size W3 W4 := by rw [near]; exact ⟨rfl, rfl, rfl, Nat.le_refl _, fun _ _ => rfl⟩
          have ce : ∀ p, W4.cell? p = W3.cell? p := fun p => by rw [near]; rfl
          clear hW4
          rw [← ce] at x0 x1 y0 y1 d0 d1 d2 d1' d2' f0 f1 f2 f3
          have HB4 : Aside0 (Below w0.heap.size w0 W4) := ⟨HB3.out.trans (hb4.mono HB3.out.size)⟩
          have H4 := Aside0.mk (H3.out.below hb4)
          have HBb4 : Aside0 (Below w0.heap.size w W4) := ⟨HBb.out.trans (hb4.mono (Nat.le_trans HB.out.size HZ.out))⟩
          have HK4 : Aside0 (Kept w W4 (fun k => k = bs ∨ k = bo)) := ⟨HK3.out.below hb4⟩
          clear near hb4 ce H3 HB3 HK3 HBb hl
          repeat still_step
          refine wpStill_nil ?_
          have hwr : IntKind.i64.wrap ((xa : Int) + max (i : Int) 1) = ((xa + max i 1 : Nat) : Int) := by
            rw [show ((xa + max i 1 : Nat) : Int) = (xa : Int) + max (i : Int) 1 from by omega]
            rw [IntKind.wrap_i64]; omega
          obtain ⟨W5, st0, h5, gr⟩ := H4.out.storeD (diag ⟨xt, xa⟩ ⟨yt, ya⟩) (xa + max i 1)
          have st : (Instr.mapUpdate 107 (.map (some bs)) (.agg #[.int .i64 (xt : Nat), .int .i64 (yt : Nat), .int .i64 ((ya : Nat) - (xa : Nat) : Int)]) (.int .i64 (IntKind.i64.wrap ((xa : Int) + max (i : Int) 1)))).run Tryz.prog W4 = .ok () W5 := by rw [hwr]; exact st0
          clear hwr st0
          have H5 := Aside0.mk h5
          have hne : w.heap.size ≠ bs ∧ w.heap.size + 1 ≠ bs ∧ bf ≠ bs := by
            have := H.out.lt
            have := H.out.bf_ne
            omega
          replace x0 := gr.cell x0 (by simp; omega)
          replace x1 := gr.cell x1 (by simp; omega)
          replace y0 := gr.cell y0 (by simp; omega)
          replace y1 := gr.cell y1 (by simp; omega)
          replace f0 := gr.cell f0 (by simp; omega)
          replace f1 := gr.cell f1 (by simp; omega)
          replace f2 := gr.cell f2 (by simp; omega)
          replace f3 := gr.cell f3 (by simp; omega)
          clear hne d0 d1 d2 d1' d2'
          have HB5 : Aside0 (Below w0.heap.size w0 W5) := ⟨HB4.out.grown gr HB4.out.size (by rintro k hk; injection hk with hk; omega)⟩
          have HBb5 : Aside0 (Below w0.heap.size w W5) := ⟨HBb4.out.grown gr HB4.out.size (by rintro k hk; injection hk with hk; omega)⟩
          have HK5 : Aside0 (Kept w W5 (fun k => k = bs ∨ k = bo)) := ⟨⟨Nat.le_trans HK4.out.1 gr.size, fun k hk hn => by
            rw [gr.block k (Nat.lt_of_lt_of_le hk HK4.out.1) (by intro e; injection e with e; exact hn (.inl e))]; exact HK4.out.2 k hk hn⟩⟩
          have HZ5 : Aside0 (w.heap.size ≤ W5.heap.size) := ⟨HK5.out.1⟩
          clear gr H4 HBb4 HK4 HB4
          go_wp2_with fail
          clear st
          have hfr : (if 0 < i then G else 0) ≤ G := by split <;> omega
          have HFR : Aside0 (0 < i → (if 0 < i then G else 0) = G) := ⟨fun h => if_pos h⟩
          have HFR0 : Aside0 (¬ 0 < i → (if 0 < i then G else 0) = 0) := ⟨fun h => if_neg h⟩
          generalize (if 0 < i then G else 0) = R at hfr HFR HFR0
          go_loopg [9] R (fun gg v9 wr => ∃ f m : Nat, v9 = .int .i64 f ∧ wr = W5.drewN m ∧ Aside0 (f + gg = R))
          case atStart => exact ⟨0, 0, rfl, rfl, ⟨by omega⟩⟩
          case round =>
            obtain ⟨f, m, rfl, rfl, HK⟩ := hrel
            go_upto_region 8 with fail
            go_cut [129] from 95 to 131 (fun v129 wx => v129 = .bool (decide (f < R)) ∧ ∃ m', wx = W5.drewN m')
            case first =>
              have HiF : Aside0 (f ≤ R) := ⟨by have := HK.out; omega⟩
              have hfR := HiF.out
              by_cases c0 : 0 < i
              · have k0 : decide ((0 : Int) < (i : Int)) = true := by simp; omega
                have hRG := HFR.out c0
                by_cases c1 : f < xa
                · have k1 : decide ((f : Int) < (xa : Int)) = true := by simp; omega
                  by_cases c2 : f < ya
                  · have k2 : decide ((f : Int) < (ya : Int)) = true := by simp; omega
                    obtain ⟨ad1, e1, q1⟩ := at_word (i := xa - 1 - f) (Kd.C_below HC1.out HB5.out) (by omega)
                    subst e1
                    obtain ⟨ad2, e2, q2⟩ := at_word (i := ya - 1 - f) (Kd.C_below HC2.out HB5.out) (by omega)
                    subst e2
                    have HW := Aside0.mk (HS1.out (xa - 1 - f) (ya - 1 - f) (by omega) (by omega))
                    generalize (txt lx).getD (xa - 1 - f) ByteArray.empty = s1 at q1 HW
                    generalize (txt ly).getD (ya - 1 - f) ByteArray.empty = s2 at q2 HW
                    have wa1 : IntKind.i64.wrap ((xa : Int) - (f : Int)) = ((xa - f : Nat) : Int) := by rw [IntKind.wrap_i64]; omega
                    have wb1 : IntKind.i64.wrap ((ya : Int) - (f : Int)) = ((ya - f : Nat) : Int) := by rw [IntKind.wrap_i64]; omega
                    have wa2 : IntKind.i64.wrap (((xa - f : Nat) : Int) - 1) = ((xa - 1 - f : Nat) : Int) := by rw [IntKind.wrap_i64]; omega
                    have wb2 : IntKind.i64.wrap (((ya - f : Nat) : Int) - 1) = ((ya - 1 - f : Nat) : Int) := by rw [IntKind.wrap_i64]; omega
                    have HV : Aside0 ((s1.toList == s2.toList) = decide (f < R)) := ⟨by
                      have hi := HiF.out
                      rw [Bool.eq_iff_iff, decide_eq_true_eq, beq_iff_eq]
                      constructor
                      · intro g
                        rcases Nat.lt_or_ge f R with g' | g'
                        · exact g'
                        · obtain rfl : f = G := by omega
                          exact absurd (HW.out.2 (bytes_inj.1 g)) (HGx.out (by omega) (by omega))
                      · intro g
                        rw [HW.out.1 (HGs.out f (by omega))]⟩
                    generalize hv : (s1.toList == s2.toList) = bb at HV
                    have hpx : xa - 1 - f < lx.length := by omega
                    have hpy : ya - 1 - f < ly.length := by omega
                    generalize xa - 1 - f = p at q1 wa2 hpx
                    generalize ya - 1 - f = p' at q2 wb2 hpy
                    generalize xa - f = o at wa1 wa2
                    generalize ya - f = o' at wb1 wb2
                    go_quiet (fail)
                    go_wp2
                    go_meet
                    exact ⟨by rw [HV.out], _, World.drewN_drewN _ _ _⟩
                  · have k2 : decide ((f : Int) < (ya : Int)) = false := by simp; omega
                    have HD : Aside0 (decide (f < R) = false) := ⟨by simp; omega⟩
                    go_quiet (fail)
                    go_wp2
                    go_meet
                    exact ⟨by rw [HD.out], _, World.drewN_drewN _ _ _⟩
                · have k1 : decide ((f : Int) < (xa : Int)) = false := by simp; omega
                  have HD : Aside0 (decide (f < R) = false) := ⟨by simp; omega⟩
                  go_quiet (fail)
                  go_wp2
                  go_meet
                  exact ⟨by rw [HD.out], _, World.drewN_drewN _ _ _⟩
              · have k0 : decide ((0 : Int) < (i : Int)) = false := by simp; omega
                have hRG := HFR0.out c0
                have HD : Aside0 (decide (f < R) = false) := ⟨by simp; omega⟩
                go_quiet (fail)
                go_wp2
                go_meet
                exact ⟨by rw [HD.out], _, World.drewN_drewN _ _ _⟩
            case rest =>
              obtain ⟨rfl, m', rfl⟩ := hcut
              by_cases hi : f < R
              · have HI := Aside0.mk hi
                have hid : decide (f < R) = true := by simp; omega
                rw [hid]
                clear hid
                go_wp2_with fail
                have := HI.out
                have := HK.out
                go_roundg (gk - 1)
                case measure => omega
                case rel => exact ⟨f + 1, m', by go_num, rfl, ⟨by have := HI.out; have := HK.out; omega⟩⟩
              · have hid : decide (f < R) = false := by simp; omega
                rw [hid]
                obtain rfl : f = R := by have := HK.out; omega
                clear hid hi
                have HE : Aside0 (Kl.look (tw T) least S (⟨xt, xa⟩, ⟨yt, ya⟩) = ⟨fun e => if e = diag ⟨xt, xa⟩ ⟨yt, ya⟩ then some (xa + max i 1) else S.seen e,
                    fun c => if least ≤ G + i ∧ 0 < i ∧ c = runAt (tw T) ⟨xt, xa⟩ ⟨yt, ya⟩ then some () else S.found c⟩) := ⟨by
                  rw [HLook.out, if_neg hsd]
                  have e1 : (runAt (tw T) ⟨xt, xa⟩ ⟨yt, ya⟩).Len = G + i := by unfold runAt; simp only; rw [HF.out, HFr.out]
                  rw [e1, HF.out]⟩
                have HRun : Aside0 (runAt (tw T) ⟨xt, xa⟩ ⟨yt, ya⟩ = ⟨xt, xa - G, yt, ya - G, G + i⟩) := ⟨by unfold runAt; simp only; rw [HF.out, HFr.out]⟩
                by_cases hL : least ≤ f + i
                · have l0 : decide ((least : Int) ≤ (f : Int) + (i : Int)) = true := by simp; omega
                  by_cases c0 : 0 < i
                  · have k0 : decide ((0 : Int) < (i : Int)) = true := by simp; omega
                    obtain rfl : f = G := HFR.out c0
                    go_wp2_with fail
                    refine region_tail 21 (by kernel_rfl) (by kernel_rfl) ?_
                    intro W6 hW6
                    simp only [List.take_succ_cons, List.take_zero, List.drop_succ_cons, List.drop_zero]
                    have near : W6 = W5.drewN (m' + 1) := by rw [hW6, World.drewN_drewN]
                    have hb6 : Below W5.heap.size W5 W6 := by rw [near]; exact ⟨rfl, rfl, rfl, Nat.le_refl _, fun _ _ => rfl⟩
                    have ce : ∀ p, W6.cell? p = W5.cell? p := fun p => by rw [near]; rfl
                    clear hW6
                    rw [← ce] at x0 x1 y0 y1 f0 f1 f2 f3
                    have H6 := Aside0.mk (H5.out.below hb6)
                    have HBb6 : Aside0 (Below w0.heap.size w W6) := ⟨HBb5.out.trans (hb6.mono HB5.out.size)⟩
                    have HK6 : Aside0 (Kept w W6 (fun k => k = bs ∨ k = bo)) := ⟨HK5.out.below hb6⟩
                    clear near hb6 ce
                    repeat still_step
                    refine wpStill_nil ?_
                    obtain ⟨W7, st0, h7, gr⟩ := H6.out.storeC ⟨xt, xa - f, yt, ya - f, f + i⟩
                    have st : (Instr.mapUpdate 108 (.map (some bo)) (.agg #[.int .i64 (xt : Nat), .int .i64 (IntKind.i64.wrap ((xa : Int) - (f : Int))), .int .i64 (yt : Nat), .int .i64 (IntKind.i64.wrap ((ya : Int) - (f : Int))), .int .i64 (IntKind.i64.wrap ((f : Int) + (i : Int)))]) (.agg #[])).run Tryz.prog W6 = .ok () W7 := by
                      rw [show IntKind.i64.wrap ((xa : Int) - (f : Int)) = ((xa - f : Nat) : Int) from by rw [IntKind.wrap_i64]; omega, show IntKind.i64.wrap ((ya : Int) - (f : Int)) = ((ya - f : Nat) : Int) from by rw [IntKind.wrap_i64]; omega, show IntKind.i64.wrap ((f : Int) + (i : Int)) = ((f + i : Nat) : Int) from by rw [IntKind.wrap_i64]; omega]
                      exact st0
                    have H7 := Aside0.mk h7
                    have HBb7 : Aside0 (Below w0.heap.size w W7) := ⟨HBb6.out.grown gr (Nat.le_trans HB.out.size HK6.out.1) (by rintro k hk; injection hk with hk; omega)⟩
                    have HK7 : Aside0 (Kept w W7 (fun k => k = bs ∨ k = bo)) := ⟨⟨Nat.le_trans HK6.out.1 gr.size, fun k hk hn => by
                      rw [gr.block k (Nat.lt_of_lt_of_le hk HK6.out.1) (by intro e; injection e with e; exact hn (.inr e))]; exact HK6.out.2 k hk hn⟩⟩
                    clear h7 gr st0
                    go_wp2_with fail
                    go_end0
                    refine ⟨rfl, ?_, HBb7.out, HK7.out⟩
                    rw [HE.out, HRun.out]
                    have := H7.out
                    rwa [show (fun e : Cl => if e = (⟨xt, xa - f, yt, ya - f, f + i⟩ : Cl) then some () else S.found e) = (fun c : Cl => if least ≤ f + i ∧ 0 < i ∧ c = (⟨xt, xa - f, yt, ya - f, f + i⟩ : Cl) then some () else S.found c) from by
                      funext e
                      by_cases g : e = (⟨xt, xa - f, yt, ya - f, f + i⟩ : Cl)
                      · rw [if_pos g, if_pos ⟨hL, c0, g⟩]
                      · rw [if_neg g, if_neg (fun h => g h.2.2)]] at this
                  · have k0 : decide ((0 : Int) < (i : Int)) = false := by simp; omega
                    go_wp2_with fail
                    go_end0
                    refine ⟨rfl, ?_, ?_, ?_⟩
                    · rw [HE.out, show (fun c => if least ≤ G + i ∧ 0 < i ∧ c = runAt (tw T) ⟨xt, xa⟩ ⟨yt, ya⟩ then some () else S.found c) = S.found from by funext c; rw [if_neg (by omega)]]
                      exact H5.out.below ⟨rfl, rfl, rfl, Nat.le_refl _, fun _ _ => rfl⟩
                    · exact HBb5.out.trans ⟨rfl, rfl, rfl, Nat.le_refl _, fun _ _ => rfl⟩
                    · exact HK5.out.below ⟨rfl, rfl, rfl, Nat.le_refl _, fun _ _ => rfl⟩
                · have l0 : decide ((least : Int) ≤ (f : Int) + (i : Int)) = false := by simp; omega
                  go_wp2_with fail
                  go_end0
                  refine ⟨rfl, ?_, ?_, ?_⟩
                  · rw [HE.out, show (fun c => if least ≤ G + i ∧ 0 < i ∧ c = runAt (tw T) ⟨xt, xa⟩ ⟨yt, ya⟩ then some () else S.found c) = S.found from by
                      funext c
                      rw [if_neg]
                      rintro ⟨h1, h2, _⟩
                      have := HFR.out h2
                      omega]
                    exact H5.out.below ⟨rfl, rfl, rfl, Nat.le_refl _, fun _ _ => rfl⟩
                  · exact HBb5.out.trans ⟨rfl, rfl, rfl, Nat.le_refl _, fun _ _ => rfl⟩
                  · exact HK5.out.below ⟨rfl, rfl, rfl, Nat.le_refl _, fun _ _ => rfl⟩
end Go.Proofs.YtbakoigejihnaaaGreatDoor.Wp
end
