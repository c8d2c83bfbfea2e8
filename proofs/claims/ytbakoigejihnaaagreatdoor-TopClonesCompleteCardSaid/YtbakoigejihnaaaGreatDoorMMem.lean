/- The suffix automaton as it lies in memory. Conditions: none. -/
import Derived.WalkKit
import Derived.KernelRfl
import Derived.Maps.RangeRun
import Derived.Maps.Own
import Derived.Deep.Draws
import Derived.Test.YtbakoigejihnaaaGreatDoorMSam
import Derived.Maps.AppendAt
section
set_option linter.unusedSectionVars false
set_option linter.unusedSimpArgs false
namespace Go.AutoMap
open Go.MapKept
open Go.ChangeMaps (setBlock)

/-- an entry as the model has it -/
def entryOf (x : ByteArray × Nat × Nat) : MapEntry := ⟨.string x.1, .int .i64 x.2.1, x.2.2⟩

/-- what a list of entries gives for a key -/
def giveOf (L : List (ByteArray × Nat × Nat)) (s : ByteArray) : Option Nat := (L.find? fun x => decide (x.1 = s)).map fun x => x.2.1

structure Entries (es : Array MapEntry) (clock : Nat) (L : List (ByteArray × Nat × Nat)) : Prop where
  eq : es.toList = L.map entryOf
  keys : (L.map fun x => x.1).Nodup
  stamps : (L.map fun x => x.2.2).Nodup
  old : ∀ x, x ∈ L → x.2.2 < clock

/-- the block's entries are those of the function f -/
def MapIs (es : Array MapEntry) (clock : Nat) (f : ByteArray → Option Nat) : Prop := ∃ L, Entries es clock L ∧ ∀ s, f s = giveOf L s

theorem mapIs_empty : MapIs #[] 0 (fun _ => none) := ⟨[], ⟨rfl, by simp, by simp, by simp⟩, fun _ => rfl⟩

theorem giveOf_none {L : List (ByteArray × Nat × Nat)} {s : ByteArray} : giveOf L s = none ↔ ∀ x, x ∈ L → x.1 ≠ s := by
  unfold giveOf
  rw [Option.map_eq_none_iff, List.find?_eq_none]
  simp

theorem giveOf_some {L : List (ByteArray × Nat × Nat)} (hk : (L.map fun x => x.1).Nodup) {s : ByteArray} {v : Nat} : giveOf L s = some v ↔ ∃ b, (s, v, b) ∈ L := by
  induction L with
  | nil => simp [giveOf]
  | cons x L ih =>
    simp only [List.map_cons, List.nodup_cons] at hk
    have ih := ih hk.2
    by_cases e : x.1 = s
    · have h1 : giveOf (x :: L) s = some x.2.1 := by simp [giveOf, e]
      rw [h1]
      constructor
      · intro h; cases h; exact ⟨x.2.2, by subst e; exact List.mem_cons_self ..⟩
      · rintro ⟨b, hb⟩
        rcases List.mem_cons.1 hb with h | h
        · rw [← h]
        · exfalso; exact hk.1 (by rw [e]; exact List.mem_map.2 ⟨_, h, rfl⟩)
    · have h1 : giveOf (x :: L) s = giveOf L s := by simp [giveOf, List.find?_cons, e]
      rw [h1, ih]
      constructor
      · rintro ⟨b, hb⟩; exact ⟨b, List.mem_cons_of_mem _ hb⟩
      · rintro ⟨b, hb⟩
        rcases List.mem_cons.1 hb with h | h
        · exact (e (by rw [← h])).elim
        · exact ⟨b, h⟩

theorem findNow_entries (s : ByteArray) : ∀ (L : List (ByteArray × Nat × Nat)) (i : Nat),
    (Instr.findNow .string (.string s) (L.map entryOf) i = some none ∧ giveOf L s = none) ∨
    ∃ j x, Instr.findNow .string (.string s) (L.map entryOf) i = some (some (i + j, .int .i64 (x.2.1 : Nat))) ∧ L[j]? = some x ∧ x.1 = s ∧ giveOf L s = some x.2.1
  | [], _ => .inl ⟨rfl, rfl⟩
  | x :: L, i => by
    by_cases e : x.1 = s
    · have hb : (s == x.1) = true := (bytes_beq _ _).2 e.symm
      refine .inr ⟨0, x, by simp [Instr.findNow, Instr.sameNow, entryOf, hb], rfl, e, by simp [giveOf, e]⟩
    · have hb : (s == x.1) = false := by
        rw [Bool.eq_false_iff]; exact fun h => e ((bytes_beq _ _).1 h).symm
      have hg : giveOf (x :: L) s = giveOf L s := by simp [giveOf, List.find?_cons, e]
      have hn : Instr.findNow .string (.string s) ((x :: L).map entryOf) i = Instr.findNow .string (.string s) (L.map entryOf) (i + 1) := by
        simp [Instr.findNow, Instr.sameNow, entryOf, hb]
      rw [hn, hg]
      rcases findNow_entries s L (i + 1) with ⟨h1, h2⟩ | ⟨j, y, h1, h2, h3, h4⟩
      · exact .inl ⟨h1, h2⟩
      · exact .inr ⟨j + 1, y, by rw [h1, Nat.add_assoc, Nat.add_comm 1 j], by simpa using h2, h3, h4⟩

section
variable {P : Program} {w : World} {t kt et : TypeId} {b : Nat} {es : Array MapEntry} {clock : Nat} {f : ByteArray → Option Nat}

theorem run_find (hk : P.underlying kt = some .string) (h : MapIs es clock f) (s : ByteArray) :
    (f s = none ∧ (Instr.findKey kt (.string s) es.toList).run P w = .ok none w) ∨
    ∃ j v, f s = some v ∧ (Instr.findKey kt (.string s) es.toList).run P w = .ok (some (j, .int .i64 (v : Nat))) w ∧ ∃ e, es[j]? = some e ∧ e.key = .string s := by
  obtain ⟨L, hE, hf⟩ := h
  rw [hf s]
  rcases findNow_entries s L 0 with ⟨h1, h2⟩ | ⟨j, x, h1, h2, h3, h4⟩
  · exact .inl ⟨h2, run_findKey hk (by rw [hE.eq]; exact h1)⟩
  · refine .inr ⟨j, x.2.1, h4, run_findKey hk (by rw [hE.eq, h1, Nat.zero_add]), entryOf x, ?_, by rw [← h3]; rfl⟩
    rw [← Array.getElem?_toList, hE.eq, List.getElem?_map, h2]; rfl

theorem run_check (hk : P.underlying kt = some .string) (s : ByteArray) (em : Bool) : (Instr.checkKey em 10000 kt (.string s)).run P w = .ok () w :=
  run_checkKey (k := .string s) hk (by simp [IsKey]) em 9999

theorem run_lookup_ok (ht : P.underlying t = some (.map kt et)) (hk : P.underlying kt = some .string) (hz : (zeroValue et).run P w = .ok (.int .i64 0) w)
    (hb : w.heap[b]? = some (.map es clock)) (h : MapIs es clock f) (s : ByteArray) :
    (Instr.lookup t (.map (some b)) (.string s) true).run P w = .ok (.tuple #[.int .i64 (((f s).getD 0 : Nat) : Int), .bool (f s).isSome]) w := by
  rcases run_find (w := w) hk h s with ⟨h1, h2⟩ | ⟨j, v, h1, h2, _⟩
  · simp [Instr.lookup, run_underlying ht, MapKept.run_getObj_map hb, run_check hk, h2, hz, h1, Result.andThen]
  · simp [Instr.lookup, run_underlying ht, MapKept.run_getObj_map hb, run_check hk, h2, h1, Result.andThen]

theorem run_lookup (ht : P.underlying t = some (.map kt et)) (hk : P.underlying kt = some .string) (hz : (zeroValue et).run P w = .ok (.int .i64 0) w)
    (hb : w.heap[b]? = some (.map es clock)) (h : MapIs es clock f) (s : ByteArray) :
    (Instr.lookup t (.map (some b)) (.string s) false).run P w = .ok (.int .i64 (((f s).getD 0 : Nat) : Int)) w := by
  rcases run_find (w := w) hk h s with ⟨h1, h2⟩ | ⟨j, v, h1, h2, _⟩
  · simp [Instr.lookup, run_underlying ht, MapKept.run_getObj_map hb, run_check hk, h2, hz, h1, Result.andThen]
  · simp [Instr.lookup, run_underlying ht, MapKept.run_getObj_map hb, run_check hk, h2, h1, Result.andThen]

theorem mapIs_push (h : MapIs es clock f) {s : ByteArray} (hs : f s = none) (v : Nat) :
    MapIs (es.push ⟨.string s, .int .i64 (v : Nat), clock⟩) (clock + 1) (fun d => if d = s then some v else f d) := by
  obtain ⟨L, hE, hf⟩ := h
  rw [hf s, giveOf_none] at hs
  refine ⟨L ++ [(s, v, clock)], ⟨by rw [Array.toList_push, hE.eq]; simp [entryOf], ?_, ?_, ?_⟩, ?_⟩
  · rw [List.map_append, List.nodup_append]
    refine ⟨hE.keys, by simp, ?_⟩
    intro a ha c hc
    simp only [List.map_cons, List.map_nil, List.mem_singleton] at hc
    obtain ⟨x, hx, rfl⟩ := List.mem_map.1 ha
    rw [hc]; exact hs x hx
  · rw [List.map_append, List.nodup_append]
    refine ⟨hE.stamps, by simp, ?_⟩
    intro a ha c hc
    simp only [List.map_cons, List.map_nil, List.mem_singleton] at hc
    obtain ⟨x, hx, rfl⟩ := List.mem_map.1 ha
    have := hE.old x hx
    omega
  · intro x hx
    rcases List.mem_append.1 hx with hx | hx
    · have := hE.old x hx; omega
    · simp only [List.mem_singleton] at hx; subst hx; simp
  · intro d
    show (if d = s then some v else f d) = _
    unfold giveOf
    rw [List.find?_append]
    by_cases e : d = s
    · subst e
      have : L.find? (fun x => decide (x.1 = d)) = none := by rw [List.find?_eq_none]; intro x hx; simpa using hs x hx
      simp [this]
    · rw [if_neg e, hf d]
      unfold giveOf
      have h0 : [(s, v, clock)].find? (fun x => decide (x.1 = d)) = none := by simp; exact fun h => e h.symm
      rw [h0, Option.or_none]

theorem mapIs_set (h : MapIs es clock f) {s : ByteArray} {j : Nat} {e : MapEntry} (he : es[j]? = some e) (hes : e.key = .string s) (v : Nat) :
    MapIs (es.modify j fun e => { e with key := .string s, val := .int .i64 (v : Nat) }) clock (fun d => if d = s then some v else f d) := by
  obtain ⟨L, hE, hf⟩ := h
  have hj : ∃ x, L[j]? = some x ∧ entryOf x = e := by
    rw [← Array.getElem?_toList, hE.eq, List.getElem?_map] at he
    obtain ⟨x, hx, hxe⟩ := Option.map_eq_some_iff.1 he
    exact ⟨x, hx, hxe⟩
  obtain ⟨x, hx, hxe⟩ := hj
  have hxs : x.1 = s := by rw [← hxe] at hes; simpa [entryOf] using hes
  have hjl : j < L.length := (List.getElem?_eq_some_iff.1 hx).1
  have hL : ∀ (i : Nat) (y : ByteArray × Nat × Nat), (L.modify j fun y => (y.1, v, y.2.2))[i]? = some y → ∃ z, L[i]? = some z ∧ y = if i = j then (z.1, v, z.2.2) else z := by
    intro i y hy
    rw [List.getElem?_modify] at hy
    obtain ⟨z, hz, hzy⟩ := Option.map_eq_some_iff.1 hy
    refine ⟨z, hz, ?_⟩
    rw [← hzy]
    by_cases g : j = i
    · simp [g]
    · simp [g, Ne.symm g]
  have hk1 : (L.modify j fun y => (y.1, v, y.2.2)).map (fun x => x.1) = L.map fun x => x.1 := by
    apply List.ext_getElem?
    intro i
    rw [List.getElem?_map, List.getElem?_map, List.getElem?_modify]
    cases L[i]? with
    | none => rfl
    | some z => by_cases g : j = i <;> simp [g]
  have hk2 : (L.modify j fun y => (y.1, v, y.2.2)).map (fun x => x.2.2) = L.map fun x => x.2.2 := by
    apply List.ext_getElem?
    intro i
    rw [List.getElem?_map, List.getElem?_map, List.getElem?_modify]
    cases L[i]? with
    | none => rfl
    | some z => by_cases g : j = i <;> simp [g]
  have hEn : Entries (es.modify j fun e => { e with key := .string s, val := .int .i64 (v : Nat) }) clock (L.modify j fun y => (y.1, v, y.2.2)) := by
    refine ⟨?_, by rw [hk1]; exact hE.keys, by rw [hk2]; exact hE.stamps, ?_⟩
    · apply List.ext_getElem?
      intro i
      rw [Array.toList_modify, List.getElem?_modify, hE.eq, List.getElem?_map, List.getElem?_map, List.getElem?_modify]
      cases hz : L[i]? with
      | none => rfl
      | some z =>
        by_cases g : j = i
        · subst g
          rw [hx] at hz; cases hz
          simp [entryOf, hxs]
        · simp [g, entryOf]
    · intro y hy
      obtain ⟨i, hi⟩ := List.mem_iff_getElem?.1 hy
      obtain ⟨z, hz, rfl⟩ := hL i y hi
      have := hE.old z (List.mem_of_getElem? hz)
      split <;> exact this
  refine ⟨_, hEn, ?_⟩
  intro d
  show (if d = s then some v else f d) = _
  by_cases e : d = s
  · subst e
    rw [if_pos rfl]
    symm
    rw [giveOf_some hEn.keys]
    refine ⟨x.2.2, List.mem_iff_getElem?.2 ⟨j, ?_⟩⟩
    rw [List.getElem?_modify, hx]; simp [hxs]
  · rw [if_neg e, hf d]
    cases hg : giveOf L d with
    | none =>
      symm
      rw [giveOf_none] at hg ⊢
      intro y hy hyd
      obtain ⟨i, hi⟩ := List.mem_iff_getElem?.1 hy
      obtain ⟨z, hz, rfl⟩ := hL i y hi
      refine hg z (List.mem_of_getElem? hz) ?_
      split at hyd <;> exact hyd
    | some u =>
      symm
      rw [giveOf_some hE.keys] at hg
      rw [giveOf_some hEn.keys]
      obtain ⟨st, hst⟩ := hg
      obtain ⟨i, hi⟩ := List.mem_iff_getElem?.1 hst
      refine ⟨st, List.mem_iff_getElem?.2 ⟨i, ?_⟩⟩
      have hij : j ≠ i := by rintro rfl; rw [hx] at hi; cases hi; exact e hxs
      rw [List.getElem?_modify, hi]; simp [hij]

theorem run_store (ht : P.underlying t = some (.map kt et)) (hk : P.underlying kt = some .string)
    (hb : w.heap[b]? = some (.map es clock)) (h : MapIs es clock f) (s : ByteArray) (v : Nat) :
    ∃ es' clock', (Instr.mapUpdate t (.map (some b)) (.string s) (.int .i64 (v : Nat))).run P w = .ok () (setBlock w b (.map es' clock')) ∧ MapIs es' clock' (fun d => if d = s then some v else f d) := by
  rcases run_find (w := w) hk h s with ⟨h1, h2⟩ | ⟨j, u, h1, h2, e, he, hes⟩
  · refine ⟨_, _, ?_, mapIs_push h h1 v⟩
    simp [Instr.mapUpdate, run_underlying ht, MapKept.run_getObj_map hb, run_check hk, h2, MapKept.run_setObj_map _ hb, Result.andThen, setBlock]
  · refine ⟨_, _, ?_, mapIs_set h he hes v⟩
    have hsame : (Instr.keyThatStays (.string s) (.string s)).run P w = .ok (.string s) w := by
      have : (s == s) = true := (bytes_beq _ _).2 rfl
      simp [Instr.keyThatStays, Instr.sameBits, this]
    have hkey : ((es[j]?).map (·.key)).getD (.string s) = .string s := by rw [he]; exact hes
    simp only [Instr.mapUpdate, Sem.run_bind, run_underlying ht, MapKept.run_getObj_map hb, run_check hk, h2, Result.andThen, hkey, hsame, MapKept.run_setObj_map _ hb]
    rfl
end
end Go.AutoMap
end
section
set_option linter.unusedSectionVars false
set_option linter.unusedSimpArgs false
namespace Go.AutoMap
open Go.MapKept
open Go.ChangeMaps (setBlock)
open Go.RowKit
open Sam (Auto upd)

/-- the automaton A as it lies in w: the struct in block ba, all of it from block base on -/
structure AutoRep (eS eA : TypeId) (w : World) (base ba : Nat) (A : Auto ByteArray) (bs cap : Nat) (xs : List Value) (mb : Nat → Nat) : Prop where
  ge : base ≤ ba
  head : w.heap[ba]? = some (.cells #[.slice (some ⟨bs, 0, none⟩) A.m cap] eA (0, 0))
  row : w.ownsRow base eS 5 (.slice (some ⟨bs, 0, none⟩) A.m cap) A.m xs
  ne : bs ≠ ba
  long : ∀ i, i < A.m → xs[i * 5]? = some (.int .i64 (A.long i : Nat))
  link : ∀ i, i < A.m → xs[i * 5 + 1]? = some (.int .i64 (A.link i))
  count : ∀ i, i < A.m → xs[i * 5 + 2]? = some (.int .i64 (A.count i : Nat))
  fin : ∀ i, i < A.m → xs[i * 5 + 3]? = some (.int .i64 (A.fin i : Nat))
  next : ∀ i, i < A.m → xs[i * 5 + 4]? = some (.map (some (mb i)))
  maps : ∀ i, i < A.m → base ≤ mb i ∧ ∃ es clock, w.heap[mb i]? = some (.map es clock) ∧ MapIs es clock (A.next i)
  inj : ∀ i j, i < A.m → j < A.m → mb i = mb j → i = j

def AutoMem (eS eA : TypeId) (w : World) (base ba : Nat) (A : Auto ByteArray) : Prop := ∃ bs cap xs mb, AutoRep eS eA w base ba A bs cap xs mb

section
variable {eS eA : TypeId} {w : World} {base ba : Nat} {A : Auto ByteArray} {bs cap : Nat} {xs : List Value} {mb : Nat → Nat}

theorem AutoRep.block (h : AutoRep eS eA w base ba A bs cap xs mb) : base ≤ bs ∧ bs < w.heap.size := h.row.lt bs rfl
theorem AutoRep.head_lt (h : AutoRep eS eA w base ba A bs cap xs mb) : ba < w.heap.size := (Array.getElem?_eq_some_iff.1 h.head).1
theorem AutoRep.map_lt (h : AutoRep eS eA w base ba A bs cap xs mb) {i : Nat} (hi : i < A.m) : mb i < w.heap.size := by
  obtain ⟨_, es, clock, he, _⟩ := h.maps i hi
  exact (Array.getElem?_eq_some_iff.1 he).1
theorem AutoRep.len (h : AutoRep eS eA w base ba A bs cap xs mb) : xs.length = A.m * 5 := h.row.1
theorem AutoRep.rowAt (h : AutoRep eS eA w base ba A bs cap xs mb) : ∃ cur, w.heap[bs]? = some (.cells cur eS (0, 0)) ∧ A.m ≤ cap ∧ cap ≤ maxLen := by
  rcases h.row.2 with ⟨h', _⟩ | ⟨g', cap', cur, h', _, hg, h1, h2, _, _⟩
  · simp at h'
  · simp only [Value.slice.injEq, Option.some.injEq, Addr.mk.injEq, and_true, true_and] at h'
    obtain ⟨rfl, rfl⟩ := h'
    exact ⟨cur, hg, h1, h2⟩
theorem AutoRep.map_ne (h : AutoRep eS eA w base ba A bs cap xs mb) {i : Nat} (hi : i < A.m) : mb i ≠ bs ∧ mb i ≠ ba := by
  obtain ⟨_, es, clock, he, _⟩ := h.maps i hi
  obtain ⟨cur, hc, _⟩ := h.rowAt
  exact ⟨fun e => by rw [e, hc] at he; simp at he, fun e => by rw [e, h.head] at he; simp at he⟩

/-- the cells that a walk reads -/
theorem AutoRep.cell0 (h : AutoRep eS eA w base ba A bs cap xs mb) : w.cell? ⟨ba, 0, none⟩ = some (.slice (some ⟨bs, 0, none⟩) A.m cap) := cell_of_one h.head
theorem AutoRep.free0 (h : AutoRep eS eA w base ba A bs cap xs mb) : w.frozen? ⟨ba, 0, none⟩ = false := free_of_one h.head
theorem AutoRep.cLong (h : AutoRep eS eA w base ba A bs cap xs mb) {i : Nat} (hi : i < A.m) : w.cell? ⟨bs, i * 5, none⟩ = some (.int .i64 (A.long i : Nat)) := by
  rw [h.row.cellAt _ (by omega)]; exact h.long i hi
theorem AutoRep.cLink (h : AutoRep eS eA w base ba A bs cap xs mb) {i : Nat} (hi : i < A.m) : w.cell? ⟨bs, i * 5 + 1, none⟩ = some (.int .i64 (A.link i)) := by
  rw [h.row.cellAt _ (by omega)]; exact h.link i hi
theorem AutoRep.cCount (h : AutoRep eS eA w base ba A bs cap xs mb) {i : Nat} (hi : i < A.m) : w.cell? ⟨bs, i * 5 + 2, none⟩ = some (.int .i64 (A.count i : Nat)) := by
  rw [h.row.cellAt _ (by omega)]; exact h.count i hi
theorem AutoRep.cFin (h : AutoRep eS eA w base ba A bs cap xs mb) {i : Nat} (hi : i < A.m) : w.cell? ⟨bs, i * 5 + 3, none⟩ = some (.int .i64 (A.fin i : Nat)) := by
  rw [h.row.cellAt _ (by omega)]; exact h.fin i hi
theorem AutoRep.cNext (h : AutoRep eS eA w base ba A bs cap xs mb) {i : Nat} (hi : i < A.m) : w.cell? ⟨bs, i * 5 + 4, none⟩ = some (.map (some (mb i))) := by
  rw [h.row.cellAt _ (by omega)]; exact h.next i hi
theorem AutoRep.free (h : AutoRep eS eA w base ba A bs cap xs mb) (j : Nat) : w.frozen? ⟨bs, j, none⟩ = false := h.row.frozenAt j

/-- nothing of the automaton has turned -/
theorem AutoRep.kept {w' : World} (h : AutoRep eS eA w base ba A bs cap xs mb) (hk : ∀ k, base ≤ k → k < w.heap.size → w'.heap[k]? = w.heap[k]?) : AutoRep eS eA w' base ba A bs cap xs mb := by
  refine ⟨h.ge, by rw [hk ba h.ge h.head_lt]; exact h.head, ?_, h.ne, h.long, h.link, h.count, h.fin, h.next, ?_, h.inj⟩
  · refine ⟨h.row.1, ?_⟩
    rcases h.row.2 with h1 | ⟨g, cap', cur, h1, h2, h3, h4⟩
    · exact .inl h1
    · refine .inr ⟨g, cap', cur, h1, h2, ?_, h4⟩
      rw [hk g h2 (Array.getElem?_eq_some_iff.1 h3).1]; exact h3
  · intro i hi
    obtain ⟨h1, es, clock, h2, h3⟩ := h.maps i hi
    exact ⟨h1, es, clock, by rw [hk _ h1 (h.map_lt hi)]; exact h2, h3⟩
theorem AutoRep.below {w' : World} (h : AutoRep eS eA w base ba A bs cap xs mb) (hb : Below w.heap.size w w') : AutoRep eS eA w' base ba A bs cap xs mb := h.kept fun k _ hk => hb.block k hk
theorem AutoMem.below {w' : World} (h : AutoMem eS eA w base ba A) (hb : Below w.heap.size w w') : AutoMem eS eA w' base ba A :=
  let ⟨bs, cap, xs, mb, h⟩ := h; ⟨bs, cap, xs, mb, h.below hb⟩
theorem AutoRep.drew (h : AutoRep eS eA w base ba A bs cap xs mb) : AutoRep eS eA w.drew base ba A bs cap xs mb := h.kept fun _ _ _ => rfl
theorem AutoRep.drewN (h : AutoRep eS eA w base ba A bs cap xs mb) (n : Nat) : AutoRep eS eA (w.drewN n) base ba A bs cap xs mb := h.kept fun _ _ _ => rfl

section
variable {P : Program} {t kt et : TypeId}
theorem AutoRep.look_ok (h : AutoRep eS eA w base ba A bs cap xs mb) (ht : P.underlying t = some (.map kt et)) (hk : P.underlying kt = some .string) (hz : ∀ w, (zeroValue et).run P w = .ok (.int .i64 0) w) {i : Nat} (hi : i < A.m) (s : ByteArray) :
    (Instr.lookup t (.map (some (mb i))) (.string s) true).run P w = .ok (.tuple #[.int .i64 (((A.next i s).getD 0 : Nat) : Int), .bool (A.next i s).isSome]) w := by
  obtain ⟨_, es, clock, h2, h3⟩ := h.maps i hi
  exact run_lookup_ok ht hk (hz w) h2 h3 s
theorem AutoRep.look (h : AutoRep eS eA w base ba A bs cap xs mb) (ht : P.underlying t = some (.map kt et)) (hk : P.underlying kt = some .string) (hz : ∀ w, (zeroValue et).run P w = .ok (.int .i64 0) w) {i : Nat} (hi : i < A.m) (s : ByteArray) :
    (Instr.lookup t (.map (some (mb i))) (.string s) false).run P w = .ok (.int .i64 (((A.next i s).getD 0 : Nat) : Int)) w := by
  obtain ⟨_, es, clock, h2, h3⟩ := h.maps i hi
  exact run_lookup ht hk (hz w) h2 h3 s

/-- a word leads on from a state: the store -/
theorem AutoRep.store (h : AutoRep eS eA w base ba A bs cap xs mb) (ht : P.underlying t = some (.map kt et)) (hk : P.underlying kt = some .string) {i : Nat} (hi : i < A.m) (s : ByteArray) (v : Nat) :
    ∃ w', (Instr.mapUpdate t (.map (some (mb i))) (.string s) (.int .i64 (v : Nat))).run P w = .ok () w' ∧ AutoRep eS eA w' base ba (A.setNext i s v) bs cap xs mb ∧ w.grownBy w' (some (mb i)) := by
  obtain ⟨h1, es, clock, h2, h3⟩ := h.maps i hi
  obtain ⟨es', clock', hrun, h4⟩ := run_store (P := P) ht hk h2 h3 s v
  have hlt := h.map_lt hi
  have hsame : (setBlock w (mb i) (.map es' clock')).heap[mb i]? = some (.map es' clock') := by simp [setBlock, hlt]
  have hother : ∀ k, k ≠ mb i → (setBlock w (mb i) (.map es' clock')).heap[k]? = w.heap[k]? := fun k hk => by simp [setBlock, Ne.symm hk]
  refine ⟨_, hrun, ⟨h.ge, ?_, ?_, h.ne, h.long, h.link, h.count, h.fin, h.next, ?_, h.inj⟩, ⟨rfl, rfl, rfl, by simp [setBlock], fun k _ hk => hother k (fun e => hk (by rw [e]))⟩⟩
  · rw [hother ba (h.map_ne hi).2.symm]; exact h.head
  · refine ⟨h.row.1, ?_⟩
    rcases h.row.2 with g1 | ⟨g, cap', cur, g1, g2, g3, g4⟩
    · exact .inl g1
    · refine .inr ⟨g, cap', cur, g1, g2, ?_, g4⟩
      have hg : g = bs := by simpa using (congrArg (fun v => match v with | Value.slice (some a) _ _ => a.block | _ => 0) g1).symm
      rw [hother g (by rw [hg]; exact (h.map_ne hi).1.symm)]; exact g3
  · intro j hj
    by_cases e : j = i
    · subst e
      refine ⟨h1, es', clock', hsame, ?_⟩
      show MapIs es' clock' (upd A.next j _ j)
      rw [Sam.upd_same]; exact h4
    · obtain ⟨k1, es2, clock2, k2, k3⟩ := h.maps j hj
      refine ⟨k1, es2, clock2, ?_, ?_⟩
      · rw [hother _ (fun q => e (h.inj j i hj hi q))]; exact k2
      · show MapIs es2 clock2 (upd A.next i _ j)
        rw [Sam.upd_ne e]; exact k3
end

/-- a number of a state is stored: the row's cells turn at one place -/
theorem AutoRep.setRow (h : AutoRep eS eA w base ba A bs cap xs mb) {B : Auto ByteArray} {j : Nat} {u : Value} (hm : B.m = A.m) (hn : B.next = A.next)
    (h0 : ∀ i, i < A.m → (xs.set j u)[i * 5]? = some (.int .i64 (B.long i : Nat))) (h1 : ∀ i, i < A.m → (xs.set j u)[i * 5 + 1]? = some (.int .i64 (B.link i)))
    (h2 : ∀ i, i < A.m → (xs.set j u)[i * 5 + 2]? = some (.int .i64 (B.count i : Nat))) (h3 : ∀ i, i < A.m → (xs.set j u)[i * 5 + 3]? = some (.int .i64 (B.fin i : Nat)))
    (h4 : ∀ i, i < A.m → (xs.set j u)[i * 5 + 4]? = some (.map (some (mb i)))) :
    AutoRep eS eA (w.setCell ⟨bs, j, none⟩ u) base ba B bs cap (xs.set j u) mb := by
  have hst := h.row.stored j u
  have hother : ∀ k, k ≠ bs → (w.setCell ⟨bs, j, none⟩ u).heap[k]? = w.heap[k]? := fun k hk => Below.heap_setCell _ _ _ _ hk
  refine ⟨h.ge, ?_, by rw [hm]; exact hst.1, h.ne, by rw [hm]; exact h0, by rw [hm]; exact h1, by rw [hm]; exact h2, by rw [hm]; exact h3, by rw [hm]; exact h4, ?_, by rw [hm]; exact h.inj⟩
  · rw [hother ba h.ne.symm, hm]; exact h.head
  · rw [hm, hn]
    intro i hi
    obtain ⟨k1, es2, clock2, k2, k3⟩ := h.maps i hi
    exact ⟨k1, es2, clock2, by rw [hother _ (h.map_ne hi).1]; exact k2, k3⟩

theorem AutoRep.setLink (h : AutoRep eS eA w base ba A bs cap xs mb) {q : Nat} (hq : q < A.m) (t : Nat) :
    AutoRep eS eA (w.setCell ⟨bs, q * 5 + 1, none⟩ (.int .i64 (t : Nat))) base ba (A.setLink q t) bs cap (xs.set (q * 5 + 1) (.int .i64 (t : Nat))) mb := by
  have hl := h.len
  refine h.setRow rfl rfl ?_ ?_ ?_ ?_ ?_
  · intro i hi; rw [List.getElem?_set_ne (by omega)]; exact h.long i hi
  · intro i hi
    show _ = some (Value.int .i64 (upd A.link q (t : Int) i))
    by_cases e : i = q
    · subst e; rw [List.getElem?_set_self (by omega), Sam.upd_same]
    · rw [List.getElem?_set_ne (by omega), Sam.upd_ne e]; exact h.link i hi
  · intro i hi; rw [List.getElem?_set_ne (by omega)]; exact h.count i hi
  · intro i hi; rw [List.getElem?_set_ne (by omega)]; exact h.fin i hi
  · intro i hi; rw [List.getElem?_set_ne (by omega)]; exact h.next i hi

theorem AutoRep.setCount (h : AutoRep eS eA w base ba A bs cap xs mb) {q : Nat} (hq : q < A.m) (t : Nat) :
    AutoRep eS eA (w.setCell ⟨bs, q * 5 + 2, none⟩ (.int .i64 (t : Nat))) base ba { A with count := upd A.count q t } bs cap (xs.set (q * 5 + 2) (.int .i64 (t : Nat))) mb := by
  have hl := h.len
  refine h.setRow rfl rfl ?_ ?_ ?_ ?_ ?_
  · intro i hi; rw [List.getElem?_set_ne (by omega)]; exact h.long i hi
  · intro i hi; rw [List.getElem?_set_ne (by omega)]; exact h.link i hi
  · intro i hi
    show _ = some (Value.int .i64 ((upd A.count q t i : Nat) : Int))
    by_cases e : i = q
    · subst e; rw [List.getElem?_set_self (by omega), Sam.upd_same]
    · rw [List.getElem?_set_ne (by omega), Sam.upd_ne e]; exact h.count i hi
  · intro i hi; rw [List.getElem?_set_ne (by omega)]; exact h.fin i hi
  · intro i hi; rw [List.getElem?_set_ne (by omega)]; exact h.next i hi
end
end Go.AutoMap
end
section
set_option linter.unusedSectionVars false
set_option linter.unusedSimpArgs false
namespace Go.AutoMap
open Go.MapKept
open Go.ChangeMaps (setBlock)
open Go.RowKit
open Sam (Auto upd)

theorem grown_alloc_drew {W w1 : World} {o : Obj} {row : Option Nat} (h : (W.alloc o).drew.grownBy w1 row) : W.grownBy w1 row :=
  (World.grownBy_alloc W o row).trans (show (W.alloc o).grownBy w1 row from ⟨h.os, h.tape, h.output, h.size, h.block⟩)
theorem bdrew {B : Nat} {w w1 : World} (h : Below B w w1) (n : Nat) : Below B w (w1.drewN n) := ⟨h.os, h.tape, h.output, h.size, h.block⟩

section
variable {eS eA : TypeId} {w : World} {base ba : Nat} {A : Auto ByteArray} {bs cap : Nat} {xs : List Value} {mb : Nat → Nat}

def newCells (long : Nat) (link : Int) (count fin mnew : Nat) : List Value := [.int .i64 (long : Nat), .int .i64 link, .int .i64 (count : Nat), .int .i64 (fin : Nat), .map (some mnew)]

theorem AutoRep.appended (h : AutoRep eS eA w base ba A bs cap xs mb) (hne : eS ≠ eA) {w1 : World} {g cap' : Nat} {long count fin mnew : Nat} {link : Int} {f : ByteArray → Option Nat}
    (hg : w.grownBy w1 (some bs)) (ho : w1.ownsRow base eS 5 (.slice (some ⟨g, 0, none⟩) (A.m + 1) cap') (A.m + 1) (xs ++ newCells long link count fin mnew))
    (hmne : mnew ≠ ba) (hold : ∀ i, i < A.m → mb i ≠ mnew) (hb : base ≤ mnew) (hmap : ∃ es clock, w1.heap[mnew]? = some (.map es clock) ∧ MapIs es clock f) :
    AutoRep eS eA (w1.setCell ⟨ba, 0, none⟩ (.slice (some ⟨g, 0, none⟩) (A.m + 1) cap')) base ba (A.add long link count fin f) g cap' (xs ++ newCells long link count fin mnew) (upd mb A.m mnew) := by
  have hl := h.len
  have hba : w1.heap[ba]? = some (.cells #[.slice (some ⟨bs, 0, none⟩) A.m cap] eA (0, 0)) := by
    rw [hg.block ba h.head_lt (by simp only [ne_eq, Option.some.injEq]; exact h.ne.symm)]; exact h.head
  obtain ⟨cur, hcur⟩ : ∃ cur, w1.heap[g]? = some (.cells cur eS (0, 0)) := by
    rcases ho.2 with ⟨h', _⟩ | ⟨g', cap2, cur, h', _, hg, _⟩
    · simp at h'
    · simp only [Value.slice.injEq, Option.some.injEq, Addr.mk.injEq, and_true, true_and] at h'
      obtain ⟨rfl, rfl⟩ := h'
      exact ⟨cur, hg⟩
  have hgb : g ≠ ba := by
    rintro rfl
    rw [hba] at hcur
    simp only [Option.some.injEq, Obj.cells.injEq] at hcur
    exact hne hcur.2.1.symm
  have hother : ∀ k, k ≠ ba → (w1.setCell ⟨ba, 0, none⟩ (.slice (some ⟨g, 0, none⟩) (A.m + 1) cap')).heap[k]? = w1.heap[k]? := fun k hk => Below.heap_setCell _ _ _ _ hk
  refine ⟨h.ge, one_setCell hba, ?_, hgb, ?_, ?_, ?_, ?_, ?_, ?_, ?_⟩
  · refine ⟨ho.1, ?_⟩
    rcases ho.2 with g1 | ⟨g', cap2, cur2, g1, g2, g3, g4⟩
    · exact .inl g1
    · refine .inr ⟨g', cap2, cur2, g1, g2, ?_, g4⟩
      have : g' = g := by simpa using (congrArg (fun v => match v with | Value.slice (some a) _ _ => a.block | _ => 0) g1).symm
      rw [this] at g3 ⊢
      rw [hother g hgb]; exact g3
  · intro i hi
    show _ = some (Value.int .i64 ((upd A.long A.m long i : Nat) : Int))
    by_cases e : i < A.m
    · rw [List.getElem?_append_left (by omega), Sam.upd_ne (by omega)]; exact h.long i e
    · have : i = A.m := by simp only [Auto.add] at hi; omega
      subst this
      rw [List.getElem?_append_right (by omega), Sam.upd_same, show A.m * 5 - xs.length = 0 by omega]; rfl
  · intro i hi
    show _ = some (Value.int .i64 (upd A.link A.m link i))
    by_cases e : i < A.m
    · rw [List.getElem?_append_left (by omega), Sam.upd_ne (by omega)]; exact h.link i e
    · have : i = A.m := by simp only [Auto.add] at hi; omega
      subst this
      rw [List.getElem?_append_right (by omega), Sam.upd_same, show A.m * 5 + 1 - xs.length = 1 by omega]; rfl
  · intro i hi
    show _ = some (Value.int .i64 ((upd A.count A.m count i : Nat) : Int))
    by_cases e : i < A.m
    · rw [List.getElem?_append_left (by omega), Sam.upd_ne (by omega)]; exact h.count i e
    · have : i = A.m := by simp only [Auto.add] at hi; omega
      subst this
      rw [List.getElem?_append_right (by omega), Sam.upd_same, show A.m * 5 + 2 - xs.length = 2 by omega]; rfl
  · intro i hi
    show _ = some (Value.int .i64 ((upd A.fin A.m fin i : Nat) : Int))
    by_cases e : i < A.m
    · rw [List.getElem?_append_left (by omega), Sam.upd_ne (by omega)]; exact h.fin i e
    · have : i = A.m := by simp only [Auto.add] at hi; omega
      subst this
      rw [List.getElem?_append_right (by omega), Sam.upd_same, show A.m * 5 + 3 - xs.length = 3 by omega]; rfl
  · intro i hi
    by_cases e : i < A.m
    · rw [List.getElem?_append_left (by omega), Sam.upd_ne (by omega)]; exact h.next i e
    · have : i = A.m := by simp only [Auto.add] at hi; omega
      subst this
      rw [List.getElem?_append_right (by omega), Sam.upd_same, show A.m * 5 + 4 - xs.length = 4 by omega]; rfl
  · intro i hi
    show base ≤ upd mb A.m mnew i ∧ ∃ es clock, (w1.setCell ⟨ba, 0, none⟩ (.slice (some ⟨g, 0, none⟩) (A.m + 1) cap')).heap[upd mb A.m mnew i]? = some (.map es clock) ∧ MapIs es clock (upd A.next A.m f i)
    by_cases e : i < A.m
    · obtain ⟨k1, es2, clock2, k2, k3⟩ := h.maps i e
      rw [Sam.upd_ne (by omega), Sam.upd_ne (by omega)]
      refine ⟨k1, es2, clock2, ?_, k3⟩
      rw [hother _ (h.map_ne e).2, hg.block _ (h.map_lt e) (by simp only [ne_eq, Option.some.injEq]; exact (h.map_ne e).1)]
      exact k2
    · have : i = A.m := by simp only [Auto.add] at hi; omega
      subst this
      rw [Sam.upd_same, Sam.upd_same]
      obtain ⟨es2, clock2, k2, k3⟩ := hmap
      exact ⟨hb, es2, clock2, by rw [hother _ hmne]; exact k2, k3⟩
  · intro i j hi hj hij
    simp only [Auto.add] at hi hj
    by_cases e1 : i < A.m <;> by_cases e2 : j < A.m
    · rw [Sam.upd_ne (by omega), Sam.upd_ne (by omega)] at hij; exact h.inj i j e1 e2 hij
    · have : j = A.m := by omega
      subst this
      rw [Sam.upd_ne (by omega), Sam.upd_same] at hij; exact (hold i e1 hij).elim
    · have : i = A.m := by omega
      subst this
      rw [Sam.upd_same, Sam.upd_ne (by omega)] at hij; exact (hold j e2 hij.symm).elim
    · omega
end

/-- what a walk needs of the numbers: links go to shorter states, words to longer ones -/
structure WF (A : Auto ByteArray) (N : Nat) : Prop where
  link : ∀ s, s < A.m → A.link s = -1 ∨ ∃ t : Nat, A.link s = t ∧ t < A.m ∧ A.long t < A.long s
  next : ∀ s c t, s < A.m → A.next s c = some t → 0 < t ∧ t < A.m ∧ A.long s < A.long t
  long : ∀ s, s < A.m → A.long s ≤ N

section
variable {A : Auto ByteArray} {N : Nat}
theorem WF.setNext (h : WF A N) {s t : Nat} {c : ByteArray} (ht : 0 < t) (htm : t < A.m) (hlt : A.long s < A.long t) : WF (A.setNext s c t) N := by
  refine ⟨h.link, ?_, h.long⟩
  intro r d u hr hu
  have hu' : upd A.next s (fun d => if d = c then some t else A.next s d) r d = some u := hu
  by_cases e : r = s
  · subst e
    rw [Sam.upd_same] at hu'
    split at hu'
    · obtain rfl : t = u := by simpa using hu'
      exact ⟨ht, htm, hlt⟩
    · exact h.next r d u hr hu'
  · rw [Sam.upd_ne e] at hu'; exact h.next r d u hr hu'

theorem WF.setLink (h : WF A N) {s t : Nat} (ht : t < A.m) (hlt : A.long t < A.long s) : WF (A.setLink s t) N := by
  refine ⟨?_, h.next, h.long⟩
  intro r hr
  show upd A.link s (t : Int) r = -1 ∨ ∃ t' : Nat, upd A.link s (t : Int) r = t' ∧ t' < A.m ∧ A.long t' < A.long r
  by_cases e : r = s
  · subst e; rw [Sam.upd_same]; exact .inr ⟨t, rfl, ht, hlt⟩
  · rw [Sam.upd_ne e]; exact h.link r hr

theorem WF.mono (h : WF A N) {M : Nat} (hM : N ≤ M) : WF A M := ⟨h.link, h.next, fun s hs => Nat.le_trans (h.long s hs) hM⟩

/-- a state is laid behind the others -/
theorem WF.add (h : WF A N) {long count fin : Nat} {link : Int} {f : ByteArray → Option Nat} (hl : long ≤ N) (hk : link = -1 ∨ ∃ t : Nat, link = t ∧ t < A.m ∧ A.long t < long)
    (hf : ∀ c t, f c = some t → 0 < t ∧ t < A.m ∧ long < A.long t) : WF (A.add long link count fin f) N := by
  refine ⟨?_, ?_, ?_⟩
  · intro s hs
    show upd A.link A.m link s = -1 ∨ ∃ t : Nat, upd A.link A.m link s = t ∧ t < A.m + 1 ∧ upd A.long A.m long t < upd A.long A.m long s
    have hs' : s < A.m + 1 := hs
    by_cases e : s = A.m
    · subst e
      rw [Sam.upd_same, Sam.upd_same]
      rcases hk with hk | ⟨t, h1, h2, h3⟩
      · exact .inl hk
      · exact .inr ⟨t, h1, by omega, by rw [Sam.upd_ne (by omega)]; exact h3⟩
    · rw [Sam.upd_ne e, Sam.upd_ne e]
      rcases h.link s (by omega) with hk | ⟨t, h1, h2, h3⟩
      · exact .inl hk
      · exact .inr ⟨t, h1, by omega, by rw [Sam.upd_ne (by omega)]; exact h3⟩
  · intro s c t hs ht
    show 0 < t ∧ t < A.m + 1 ∧ upd A.long A.m long s < upd A.long A.m long t
    have hs' : s < A.m + 1 := hs
    have ht' : upd A.next A.m f s c = some t := ht
    by_cases e : s = A.m
    · subst e
      rw [Sam.upd_same] at ht'
      obtain ⟨h1, h2, h3⟩ := hf c t ht'
      exact ⟨h1, by omega, by rw [Sam.upd_same, Sam.upd_ne (by omega)]; exact h3⟩
    · rw [Sam.upd_ne e] at ht'
      obtain ⟨h1, h2, h3⟩ := h.next s c t (by omega) ht'
      exact ⟨h1, by omega, by rw [Sam.upd_ne e, Sam.upd_ne (by omega)]; exact h3⟩
  · intro s hs
    show upd A.long A.m long s ≤ N
    have hs' : s < A.m + 1 := hs
    by_cases e : s = A.m
    · subst e; rw [Sam.upd_same]; exact hl
    · rw [Sam.upd_ne e]; exact h.long s (by omega)
end

theorem inv_wf {T : List ByteArray} {A : Auto ByteArray} {rep : Nat → List ByteArray} (h : Sam.Inv T A rep) : WF A T.length := by
  refine ⟨fun s hs => ?_, fun s c t hs ht => ⟨h.next_pos hs ht, (h.nextSome s hs c t ht).1, h.next_long hs ht⟩, fun s hs => h.long_le hs⟩
  rcases h.link_cases hs with e | ⟨t, e⟩
  · exact .inl e
  · have := h.link_suffix hs e
    exact .inr ⟨t, e, this.1, this.2.2⟩
end Go.AutoMap
end
section
set_option linter.unusedSectionVars false
set_option linter.unusedSimpArgs false
namespace Go.AutoMap
open Go.MapKept
open Go.ChangeMaps (setBlock)
open Go.RowKit

theorem giveOf_snoc {D : List (ByteArray × Nat × Nat)} {x : ByteArray × Nat × Nat} (hx : ∀ y, y ∈ D → y.1 ≠ x.1) (d : ByteArray) : giveOf (D ++ [x]) d = if d = x.1 then some x.2.1 else giveOf D d := by
  unfold giveOf
  rw [List.find?_append]
  by_cases e : d = x.1
  · subst e
    have : D.find? (fun y => decide (y.1 = x.1)) = none := by rw [List.find?_eq_none]; intro y hy; simpa using hx y hy
    simp [this]
  · rw [if_neg e]
    have h0 : [x].find? (fun y => decide (y.1 = d)) = none := by simp; exact fun h => e h.symm
    rw [h0, Option.or_none]

theorem key_unique {L : List (ByteArray × Nat × Nat)} (hk : (L.map fun x => x.1).Nodup) {x y : ByteArray × Nat × Nat} (hx : x ∈ L) (hy : y ∈ L) (h : x.1 = y.1) : x = y := by
  induction L with
  | nil => simp at hx
  | cons a L ih =>
    simp only [List.map_cons, List.nodup_cons] at hk
    rcases List.mem_cons.1 hx with rfl | hx' <;> rcases List.mem_cons.1 hy with rfl | hy'
    · rfl
    · exact (hk.1 (List.mem_map.2 ⟨y, hy', h.symm⟩)).elim
    · exact (hk.1 (List.mem_map.2 ⟨x, hx', h⟩)).elim
    · exact ih hk.2 hx' hy'

theorem stamp_unique {L : List (ByteArray × Nat × Nat)} (hk : (L.map fun x => x.2.2).Nodup) {x y : ByteArray × Nat × Nat} (hx : x ∈ L) (hy : y ∈ L) (h : x.2.2 = y.2.2) : x = y := by
  induction L with
  | nil => simp at hx
  | cons a L ih =>
    simp only [List.map_cons, List.nodup_cons] at hk
    rcases List.mem_cons.1 hx with rfl | hx' <;> rcases List.mem_cons.1 hy with rfl | hy'
    · rfl
    · exact (hk.1 (List.mem_map.2 ⟨y, hy', h.symm⟩)).elim
    · exact (hk.1 (List.mem_map.2 ⟨x, hx', h⟩)).elim
    · exact ih hk.2 hx' hy'

/-- The map in block bm is gone through by the iterator in block r; what has been handed out, D, lies in the map in block m1. -/
structure Ranged (es : Array MapEntry) (clock : Nat) (L : List (ByteArray × Nat × Nat)) (bm m1 r : Nat) (D : List (ByteArray × Nat × Nat)) (w : World) : Prop where
  src : w.heap[bm]? = some (.map es clock)
  it : w.heap[r]? = some (.mapIter (some bm) clock (D.map fun x => x.2.2).toArray clock)
  out : ∃ es1 clock1, w.heap[m1]? = some (.map es1 clock1) ∧ MapIs es1 clock1 (giveOf D)
  sub : ∀ x, x ∈ D → x ∈ L
  nodup : D.Nodup

section
variable {P : Program} {t kt et : TypeId} {es : Array MapEntry} {clock : Nat} {L D : List (ByteArray × Nat × Nat)} {bm m1 r : Nat} {w : World}

theorem Ranged.all (hE : Entries es clock L) (h : Ranged es clock L bm m1 r D w) (hall : ∀ x, x ∈ L → x ∈ D) : ∃ es1 clock1, w.heap[m1]? = some (.map es1 clock1) ∧ MapIs es1 clock1 (giveOf L) := by
  obtain ⟨es1, clock1, h1, h2⟩ := h.out
  refine ⟨es1, clock1, h1, ?_⟩
  have : giveOf D = giveOf L := by
    funext s
    cases hg : giveOf L s with
    | none =>
      rw [giveOf_none] at hg ⊢
      exact fun x hx => hg x (h.sub x hx)
    | some v =>
      rw [giveOf_some hE.keys] at hg
      obtain ⟨b, hb⟩ := hg
      have hD : (s, v, b) ∈ D := hall _ hb
      cases hd : giveOf D s with
      | none => rw [giveOf_none] at hd; exact (hd _ hD rfl).elim
      | some u =>
        unfold giveOf at hd
        obtain ⟨x, hx, hxu⟩ := Option.map_eq_some_iff.1 hd
        have hx1 := List.find?_some hx
        have hx2 := List.mem_of_find?_eq_some hx
        simp only [decide_eq_true_eq] at hx1
        have := key_unique hE.keys (h.sub x hx2) hb hx1
        subst this
        rw [← hxu]
  rw [this] at h2; exact h2

theorem Ranged.step (hE : Entries es clock L) (h : Ranged es clock L bm m1 r D w) (ty : TypeId) (ht : P.underlying t = some (.map kt et)) (hk : P.underlying kt = some .string) (hb1 : bm ≠ m1) (hb2 : bm ≠ r) (hb3 : m1 ≠ r) :
    ((∀ x, x ∈ L → x ∈ D) ∧ (Instr.next (.pointer (some ⟨r, 0, none⟩)) false ty).run P w = .ok (.tuple #[.bool false]) w) ∨
    ∃ x w1 w2, x ∈ L ∧ D.length < L.length ∧ (Instr.next (.pointer (some ⟨r, 0, none⟩)) false ty).run P w = .ok (.tuple #[.bool true, .string x.1, .int .i64 (x.2.1 : Nat)]) w1 ∧
      (Instr.entry (.pointer (some ⟨r, 0, none⟩))).run P w1 = .ok (.tuple #[.string x.1, .int .i64 (x.2.1 : Nat)]) w1 ∧
      (Instr.mapUpdate t (.map (some m1)) (.string x.1) (.int .i64 (x.2.1 : Nat))).run P w1 = .ok () w2 ∧
      Ranged es clock L bm m1 r (D ++ [x]) w2 ∧ (∀ B, B ≤ m1 → B ≤ r → Below B w w2) := by
  have hold : ∀ e ∈ es.toList, e.born < clock := by
    intro e he
    rw [hE.eq] at he
    obtain ⟨x, hx, rfl⟩ := List.mem_map.1 he
    exact hE.old x hx
  have hrl : r < w.heap.size := (Array.getElem?_eq_some_iff.1 h.it).1
  rcases run_next_at (P := P) w ty r bm clock clock _ es clock h.it h.src hold (Nat.le_refl _) with ⟨h0, hrun⟩ | ⟨e, he, w1, hw1, hrun⟩
  · refine .inl ⟨fun x hx => ?_, hrun⟩
    have hempty : leftOf es (D.map fun x => x.2.2).toArray = #[] := Array.eq_empty_of_size_eq_zero h0
    have hmem : entryOf x ∈ es.toList := by rw [hE.eq]; exact List.mem_map.2 ⟨x, hx, rfl⟩
    unfold leftOf at hempty
    rw [Array.filter_eq_empty_iff] at hempty
    have := hempty (entryOf x) (by simpa using hmem)
    simp only [List.contains_toArray, Bool.not_eq_eq_eq_not, Bool.not_true, Bool.not_eq_false, List.contains_iff_mem, List.elem_eq_mem, decide_eq_true_eq] at this
    simp only [Bool.not_eq_true', Bool.not_eq_false, List.contains_eq_mem, decide_eq_true_eq, entryOf] at this
    obtain ⟨y, hy, hyx⟩ := List.mem_map.1 this
    have := stamp_unique hE.stamps (h.sub y hy) hx hyx
    subst this; exact hy
  · right
    have he' : e ∈ es.toList ∧ e.born ∉ D.map fun x => x.2.2 := by
      unfold leftOf at he
      simp only [Array.toList_filter, List.mem_filter] at he
      refine ⟨he.1, ?_⟩
      have := he.2
      simpa using this
    obtain ⟨he1, he2⟩ := he'
    rw [hE.eq] at he1
    obtain ⟨x, hx, rfl⟩ := List.mem_map.1 he1
    have hxD : x ∉ D := fun hm => he2 (List.mem_map.2 ⟨x, hm, rfl⟩)
    have hkey : ∀ y, y ∈ D → y.1 ≠ x.1 := fun y hy e => by
      have := key_unique hE.keys (h.sub y hy) hx e
      subst this; exact hxD hy
    have hnd : (D ++ [x]).Nodup := by
      rw [List.nodup_append]
      refine ⟨h.nodup, by simp, ?_⟩
      intro a ha c hc
      simp only [List.mem_singleton] at hc
      subst hc
      exact fun e => hxD (e ▸ ha)
    have hlen : D.length < L.length := by
      have := List.Nodup.length_le_of_subset hnd (l₂ := L) (by
        intro y hy
        rcases List.mem_append.1 hy with hy | hy
        · exact h.sub y hy
        · simp only [List.mem_singleton] at hy; subst hy; exact hx)
      simp at this; omega
    have hw1h : w1.heap = w.heap := by rcases hw1 with rfl | rfl <;> rfl
    generalize hw1' : setBlock w1 r (.mapIter (some bm) clock ((D.map fun x => x.2.2).toArray.push (entryOf x).born) clock) = w1' at hrun
    have hat : ∀ k, k ≠ r → w1'.heap[k]? = w.heap[k]? := fun k hk => by rw [← hw1']; simp [setBlock, hw1h, Ne.symm hk]
    have hatr : w1'.heap[r]? = some (.mapIter (some bm) clock ((D.map fun x => x.2.2).toArray.push (entryOf x).born) clock) := by rw [← hw1']; simp [setBlock, hw1h, hrl]
    have hsz : w1'.heap.size = w.heap.size := by rw [← hw1']; simp [setBlock, hw1h]
    have hos : w1'.os = w.os ∧ w1'.tape = w.tape ∧ w1'.output = w.output := by rw [← hw1']; rcases hw1 with rfl | rfl <;> exact ⟨rfl, rfl, rfl⟩
    have hent := run_entry_at (P := P) w1' r bm clock _ es clock (entryOf x) hatr (by rw [hat _ hb2]; exact h.src) (by rw [hE.eq]; exact List.mem_map.2 ⟨x, hx, rfl⟩) (by rw [hE.eq, List.map_map]; exact hE.stamps)
    obtain ⟨es1, clock1, h1, h2⟩ := h.out
    have h1' : w1'.heap[m1]? = some (.map es1 clock1) := by rw [hat _ hb3]; exact h1
    obtain ⟨es2, clock2, hup, h3⟩ := run_store (P := P) ht hk h1' h2 x.1 x.2.1
    have hml : m1 < w1'.heap.size := (Array.getElem?_eq_some_iff.1 h1').1
    have hat2 : ∀ k, k ≠ m1 → (setBlock w1' m1 (.map es2 clock2)).heap[k]? = w1'.heap[k]? := fun k hk => by simp [setBlock, Ne.symm hk]
    refine ⟨x, w1', _, hx, hlen, hrun, hent, hup, ⟨?_, ?_, ?_, ?_, hnd⟩, ?_⟩
    · rw [hat2 _ hb1, hat _ hb2]; exact h.src
    · rw [hat2 _ hb3.symm, hatr]; simp [entryOf]
    · refine ⟨es2, clock2, by simp [setBlock, hml], ?_⟩
      have : giveOf (D ++ [x]) = fun d => if d = x.1 then some x.2.1 else giveOf D d := funext fun d => giveOf_snoc hkey d
      rw [this]; exact h3
    · intro y hy
      rcases List.mem_append.1 hy with hy | hy
      · exact h.sub y hy
      · simp only [List.mem_singleton] at hy; subst hy; exact hx
    · intro B hB1 hB2
      refine ⟨by show w1'.os = _; exact hos.1, hos.2.1, hos.2.2, by simp [setBlock, hsz], fun k hk => ?_⟩
      rw [hat2 _ (by omega), hat _ (by omega)]
end
end Go.AutoMap
end
