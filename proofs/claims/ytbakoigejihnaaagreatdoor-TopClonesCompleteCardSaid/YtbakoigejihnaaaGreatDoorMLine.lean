/- The lines of a text, the words of a line, the class of a word and the number of a note, walked. Conditions: none. -/
import Derived.RangeFuncFrom
import Derived.RangeFuncCalls
import Derived.RangeFuncLeaves
import Derived.RowKit
import Derived.RangeFuncNested
import Derived.RangeFuncBound
import Derived.Shelf.Abstract
import Derived.Shelf.RegionOpen
import Derived.WalkKit
import Derived.OwnWalkIn
import Derived.TacticsInMore
import Derived.LoopNIn
import Derived.LoopIn
import Derived.Test.YtbakoigejihnaaaGreatDoorMSh2
import Derived.Test.YtbakoigejihnaaaGreatDoorVWords
import Derived.Test.YtbakoigejihnaaaGreatDoorMWp
import Derived.Test.YtbakoigejihnaaaGreatDoorMRF
import Derived.Laws.RangeAny
import Derived.Laws.RangeString
import Derived.Lib.SmallJoins
import Derived.Lib.AtoiBound
import Derived.Lib.AppendIntMem
section
set_option linter.unusedVariables false
namespace Go.Proofs.YtbakoigejihnaaaGreatDoor.Rg
open Go Go.RowKit
variable {F : Fence} {n : Nat} {P : Program}

/-- how a round is left: it goes on; the blocks of X lie as they lay -/
def onPost {α : Type} (X : Nat → Prop) (I : List α → World → Prop) (xs : List α) (W : World) : Exit → Act → World → Prop
  | .normal, _, W' => (∀ k, X k → W'.heap[k]? = W.heap[k]?) ∧ I xs W'
  | .ret, _, _ => False
  | .exit _, _, _ => False
  | .goto _, _, _ => False
  | .panic _, _, _ => False
  | .outgrown, _, _ => False

/-- an iterator's word: it hands on the elements xs, writes its own block Bs alone, and needs that a round leaves the blocks of X as they lay -/
def Gives {α : Type} (F : Fence) (n : Nat) (P : Program) (gf : Nat) (lb : Array Value) (encs : α → Array Value) (Bs : Nat) (X : Nat → Prop) (xs : List α) (Ok : World → Prop) : Prop :=
  ∀ (l : Nat) (J : List α → World → Prop) (W : World), (∀ pre A B, J pre A → A.grownBy B (some Bs) → J pre B) → (∀ pre x rest, xs = pre ++ x :: rest → ∀ W1, J pre W1 → YieldAt F (n - 1) P l (encs x) W1 fun e W' => e = .returned (.bool true) ∧ J (pre ++ [x]) W' ∧ ∀ k, X k → W'.heap[k]? = W1.heap[k]?) →
    J [] W → Ok W → CallsIn F n P gf (#[.func (.yield l) #[] #[]] ++ lb) W fun e W' => (∃ v, e = .returned v) ∧ J xs W'

theorem range_on {α : Type} {g : Operand} {ps : Array Tmp} {assign body : Code} {Q : Exit → Act → World → Prop} {a : Act} {w : World}
    (hro : F.round = none) (h1 : 1 ≤ n) {gf : Nat} {lb : Array Value} (hg : a.eval g = .func (.func gf) #[] lb) (hFg : F.fn gf) (eg : ∀ args w, (callFunc gf args).run P w = .ok (.enter gf args) w)
    {encs : α → Array Value} (hps : ∀ x, (encs x).size = ps.size) (Bs : Nat) (X : Nat → Prop) (hB : Bs < w.heap.size) (hX : ∀ k, X k → k < w.heap.size) (xs : List α) (Ok : World → Prop)
    (hseq : Gives F (n - 1) P gf lb encs Bs X xs Ok)
    (I : List α → World → Prop) (hIg : ∀ pre A B, I pre A → A.grownBy B (some Bs) → I pre B) (hIp : ∀ pre A k o, w.heap.size ≤ k → k ≤ w.heap.size + 1 → I pre A → I pre (A.putObj k o))
    (h0 : ∀ o1 o2, I [] ((w.alloc o1).alloc o2) ∧ Ok ((w.alloc o1).alloc o2)) (a₁ : α → Act)
    (hassign : ∀ (x : α) (W : World) (K : Act → World → Prop), K (a₁ x) W →
      assign.wpIn (F.inRound (w.heap.size + 1)) (n - 1 - 1) P (Exit.then K (fun _ _ _ => False)) { tmps := (ps.zip (encs x)).foldl (fun t (p, v) => t.setIfInBounds p v) a.tmps, defers := [] } W)
    (hbody : ∀ (pre : List α) (x : α) (rest : List α) (W : World), xs = pre ++ x :: rest → I pre W → w.heap.size + 1 < W.heap.size → body.wpIn (F.inRound (w.heap.size + 1)) (n - 1 - 1) P (onPost (fun k => X k ∨ k = w.heap.size ∨ k = w.heap.size + 1) I (pre ++ [x]) W) (a₁ x) W)
    (hdone : ∀ (W : World), I xs W → W.heap[w.heap.size]? = some (.deferred (some [])) → Q .normal { a with defers := { target := .collected w.heap.size, args := #[] } :: a.defers } W) :
    (Code.rangeFunc g ps assign body).wpIn F n P Q a w := by
  refine wpIn_rangeFunc ?_
  intro fn hfn
  rw [hro]
  obtain ⟨rec, hrec⟩ : ∃ rec : LoopState → Option Code → Loop, rec = fun st pe => { state := st, pending := pe, fn, tmps := a.tmps, params := ps, assign, body, defers := w.heap.size } := ⟨_, rfl⟩
  obtain ⟨W1, hW1⟩ : ∃ W1, (w.alloc (.deferred (some []))).alloc (.loop (rec .ready none)) = W1 := ⟨_, rfl⟩
  have hL1 : W1.heap[w.heap.size + 1]? = some (.loop (rec .ready none)) := by
    rw [← hW1]; have := World.alloc_heap_new (w.alloc (.deferred (some []))) (.loop (rec .ready none)); rwa [World.size_alloc] at this
  have hK1 : W1.heap[w.heap.size]? = some (.deferred (some [])) := by
    rw [← hW1]; exact (Below.heap_alloc _ _ _ (by simp)).trans (World.alloc_heap_new w _)
  have hI1 : I [] W1 := by rw [← hW1]; exact (h0 _ _).1
  have hO1 : Ok W1 := by rw [← hW1]; exact (h0 _ _).2
  refine ⟨w.heap.size + 1, [{ target := .collected w.heap.size, args := #[] }], W1, { target := .fn (.func gf) lb, args := #[.func (.yield (w.heap.size + 1)) #[] #[]] }, W1, gf,
    #[.func (.yield (w.heap.size + 1)) #[] #[]] ++ lb, W1, ?_, ?_, ?_, ?_, fun _ => h1, ?_⟩
  · rw [← hW1, hrec]; exact run_enterLoop_outer _ _ _ _ _
  · simp only [resolve, hg]
    simp [go_sem]
  · intro f' hf'; simp [Target.leads] at hf'; subst hf'; exact hFg
  · simp [invoke, go_sem, eg]
  · refine (hseq (w.heap.size + 1) (fun pre W => I pre W ∧ W.heap[w.heap.size + 1]? = some (.loop (rec .ready none)) ∧ W.heap[w.heap.size]? = some (.deferred (some []))) W1
      (fun pre A B hs hgr => ⟨hIg _ _ _ hs.1 hgr, (hgr.block _ (Array.getElem?_eq_some_iff.1 hs.2.1).1 (by intro e; injection e with e; omega)).trans hs.2.1, (hgr.block _ (Array.getElem?_eq_some_iff.1 hs.2.2).1 (by intro e; injection e with e; omega)).trans hs.2.2⟩)
      ?_ ⟨hI1, hL1, hK1⟩ hO1).mono ?_
    · rintro pre x rest hxs W ⟨hi, hl, hk⟩
      have hlt : w.heap.size + 1 < W.heap.size := (Array.getElem?_eq_some_iff.1 hl).1
      have hy := run_yield (P := P) (args := encs x) hl (by rw [hrec]; exact hps x)
      rw [hrec] at hy
      refine ⟨fn, _, assign, body, hy, roundIn_of_wpIn hfn (hassign x W _ ⟨_, run_beginRound hl (by rw [hrec]), ?_⟩)⟩
      have hl2 : (W.putObj (w.heap.size + 1) (.loop { rec .ready none with state := .busy })).heap[w.heap.size + 1]? = some (.loop { rec .ready none with state := .busy }) := World.putObj_heap_same hlt
      have hk2 : (W.putObj (w.heap.size + 1) (.loop { rec .ready none with state := .busy })).heap[w.heap.size]? = some (.deferred (some [])) := (World.putObj_heap_other (by omega)).trans hk
      have hsz : w.heap.size + 1 < (W.putObj (w.heap.size + 1) (.loop { rec .ready none with state := .busy })).heap.size := (Array.getElem?_eq_some_iff.1 hl2).1
      refine wpIn_mono (hbody pre x rest _ hxs (hIp _ _ _ _ (by omega) (by omega) hi) hsz) ?_
      rintro e a3 W3 hp
      cases e with
      | normal =>
        obtain ⟨hk3, hi3⟩ := hp
        have hl3 := (hk3 (w.heap.size + 1) (.inr (.inr rfl))).trans hl2
        have hd3 := (hk3 w.heap.size (.inr (.inl rfl))).trans hk2
        have hr := run_endRound (P := P) none hl3
        have hlt3 := (Array.getElem?_eq_some_iff.1 hl3).1
        refine ⟨_, _, hr, rfl, ⟨hIp _ _ _ _ (by omega) (by omega) hi3, ?_, (World.putObj_heap_other (by omega)).trans hd3⟩, fun k hk => ?_⟩
        · rw [World.putObj_heap_same hlt3, hrec]; rfl
        · have := hX k hk
          rw [World.putObj_heap_other (by omega), hk3 k (.inl hk), World.putObj_heap_other (by omega)]
      | ret => exact hp.elim
      | exit id => exact hp.elim
      | goto t => exact hp.elim
      | panic ch => exact hp.elim
      | outgrown => exact hp.elim
    · rintro e W2 ⟨⟨v, rfl⟩, hi, hl, hk⟩
      exact ⟨none, _, by have := run_endLoop (P := P) hl (by rw [hrec]; simp); rw [hrec] at this; exact this, hdone _ (hIp _ _ _ _ (by omega) (by omega) hi) ((World.putObj_heap_other (by omega)).trans hk)⟩
end Go.Proofs.YtbakoigejihnaaaGreatDoor.Rg
end
section
set_option linter.unusedVariables false
set_option linter.unusedSimpArgs false
namespace Go.Proofs.YtbakoigejihnaaaGreatDoor.Rg
open Go Go.RowKit Go.Proofs Go.Proofs.YtbakoigejihnaaaGreatDoorW.PrintWords
attribute [local go_sem] Oper.semAt_some

/-- the lines of a text -/
def pieces : Nat → ByteArray → List ByteArray
  | 0, s => [s]
  | k + 1, s => if Lib.indexByte s.data.toList 10 < 0 then [s] else s.extract 0 (Lib.indexByte s.data.toList 10).toNat :: pieces k (s.extract ((Lib.indexByte s.data.toList 10).toNat + 1) s.size)

theorem idx_lt : ∀ (l : List UInt8) (c : UInt8), 0 ≤ Lib.indexByte l c → (Lib.indexByte l c).toNat < l.length
  | [], c, h => by simp [Lib.indexByte] at h
  | b :: l, c, h => by
    have hge := Lib.indexByte_ge l c
    unfold Lib.indexByte at h ⊢
    by_cases e : (b == c) = true
    · rw [if_pos e]; simp
    · rw [if_neg e] at h ⊢
      by_cases e2 : (Lib.indexByte l c == -1) = true
      · rw [if_pos e2] at h; omega
      · rw [if_neg e2] at h ⊢
        have e3 : Lib.indexByte l c ≠ -1 := by simpa using e2
        have := idx_lt l c (by omega)
        simp only [List.length_cons]
        omega

theorem pieces_stop {k : Nat} {s : ByteArray} (h : Lib.indexByte s.data.toList 10 < 0) : pieces k s = [s] := by
  cases k with
  | zero => rfl
  | succ k => exact if_pos h
theorem pieces_step {k : Nat} {s : ByteArray} (hk : s.size ≤ k) (h : 0 ≤ Lib.indexByte s.data.toList 10) :
    ∃ k', pieces k s = s.extract 0 (Lib.indexByte s.data.toList 10).toNat :: pieces k' (s.extract ((Lib.indexByte s.data.toList 10).toNat + 1) s.size) ∧ (s.extract ((Lib.indexByte s.data.toList 10).toNat + 1) s.size).size ≤ k' ∧ (s.extract ((Lib.indexByte s.data.toList 10).toNat + 1) s.size).size < s.size := by
  have hlt := idx_lt _ _ h
  have hs : s.data.toList.length = s.size := by simp
  cases k with
  | zero => omega
  | succ k =>
    refine ⟨k, if_neg (by omega), ?_, ?_⟩ <;> rw [ByteArray.size_extract] <;> omega

def stateOf (W : World) (B : Nat) : Nat := match W.cell? ⟨B, 0, none⟩ with
  | some (.string s) => s.size
  | _ => 0

set_option maxHeartbeats 4000000 in
set_option maxRecDepth 100000 in
theorem split_gives (n : Nat) (hn : 3 ≤ n) (Bp Bs Bv : Nat) (s : ByteArray) (hs : s.size ≤ 1000000) (h1 : Bp ≠ Bs) (h2 : Bv ≠ Bs) :
    Gives Fence.wide n Tryz.prog 78 #[.pointer (some ⟨Bp, 0, none⟩), .pointer (some ⟨Bs, 0, none⟩), .pointer (some ⟨Bv, 0, none⟩)] (fun x : ByteArray => #[.string x]) Bs (fun k => k = Bp ∨ k = Bs ∨ k = Bv) (pieces s.size s)
      (fun W => Boxed W Bp 9 (.string ⟨#[10]⟩) ∧ Boxed W Bs 9 (.string s) ∧ Boxed W Bv 3 (.int .i64 0)) := by
  intro l J W hJ hY h0 ⟨hp, hs0, hv⟩
  refine callsIn_of_wp Tryz.func78 rfl trivial ?_ rfl
  simp only [Tryz.ntmps78, List.size_toArray, List.length_cons, List.length_nil, Nat.reduceAdd, Nat.reduceSub, Array.replicate_succ, Array.replicate_zero, List.push_toArray, List.append_toArray, List.nil_append, List.cons_append]
  have cp := hp.cell
  gi_wp2
  clear cp
  gi_loopw [7] (fun v7 wr => ∃ (pre : List ByteArray) (r : ByteArray) (k : Nat), Aside0 (pieces s.size s = pre ++ pieces k r ∧ r.size ≤ k ∧ r.size ≤ 1000000) ∧ J pre wr ∧ Boxed wr Bp 9 (.string ⟨#[10]⟩) ∧ Boxed wr Bs 9 (.string r) ∧ Boxed wr Bv 3 (.int .i64 0)) (fun _ wr => stateOf wr Bs)
  case atStart => exact ⟨[], s, s.size, ⟨rfl, Nat.le_refl _, hs⟩, h0, hp, hs0, hv⟩
  case round =>
    obtain ⟨pre, r, k, HP, hJr, hp, hb, hv⟩ := hrel
    have cp := hp.cell
    have cb := hb.cell
    have cv := hv.cell
    have HX := fun (m : Nat) (W : World) => (callsIn_wide (n := m)).2 (Tryz.strings_Index_one r 10 W)
    by_cases hi : Lib.indexByte r.data.toList 10 < 0
    · have HN : Aside0 (pieces s.size s = pre ++ [r]) := ⟨by rw [HP.out.1, pieces_stop hi]⟩
      have hib : decide (Lib.indexByte r.data.toList 10 < 0) = true := decide_eq_true hi
      obtain ⟨fn, tmps, assign, body, hy, hR⟩ := hY pre r [] HN.out wr hJr
      generalize Lib.indexByte r.data.toList 10 = i at hib HX
      clear hi HP
      gi_wp2_with (refine ⟨trivial, fun _ => by omega, ?_⟩; gi_at_call 43; refine (HX _ _).mono ?_; rintro e w9 ⟨rfl, rfl⟩)
      refine ⟨fun _ => by omega, hR.mono ?_⟩
      rintro e W3 ⟨rfl, hJ3, hk3⟩
      gi_wp2
      go_end0
      exact ⟨⟨_, rfl⟩, by rw [HN.out]; exact hJ3⟩
    · obtain ⟨k', e1, e2, e3⟩ := pieces_step HP.out.2.1 (by omega)
      have hlt := idx_lt r.data.toList 10 (by omega)
      rw [show r.data.toList.length = r.size by simp] at hlt
      obtain ⟨j, hj⟩ : ∃ j : Nat, Lib.indexByte r.data.toList 10 = (j : Int) := ⟨_, (Int.toNat_of_nonneg (by omega)).symm⟩
      rw [hj, Int.toNat_natCast] at e1 e2 e3 hlt
      have HN : Aside0 (pieces s.size s = pre ++ r.extract 0 j :: pieces k' (r.extract (j + 1) r.size)) := ⟨by rw [HP.out.1, e1]⟩
      have HS : Aside0 ((r.extract (j + 1) r.size).size ≤ k' ∧ (r.extract (j + 1) r.size).size ≤ 1000000 ∧ (r.extract (j + 1) r.size).size < r.size) := ⟨e2, by have := HP.out.2.2; omega, e3⟩
      have hr1 := HP.out.2.2
      obtain ⟨fn, tmps, assign, body, hy, hR⟩ := hY pre (r.extract 0 j) (pieces k' (r.extract (j + 1) r.size)) HN.out wr hJr
      rw [hj] at HX
      have hjb : decide ((j : Int) < 0) = false := by simp
      clear hi HP e1 e2 e3 hj
      gi_wp2_with (refine ⟨trivial, fun _ => by omega, ?_⟩; gi_at_call 43; refine (HX _ _).mono ?_; rintro e w9 ⟨rfl, rfl⟩)
      refine ⟨fun _ => by omega, hR.mono ?_⟩
      rintro e W3 ⟨rfl, hJ3, hk3⟩
      have hp3 : Boxed W3 Bp 9 (.string ⟨#[10]⟩) := (hk3 _ (.inl rfl)).trans hp
      have hb3 : Boxed W3 Bs 9 (.string r) := (hk3 _ (.inr (.inl rfl))).trans hb
      have hv3 : Boxed W3 Bv 3 (.int .i64 0) := (hk3 _ (.inr (.inr rfl))).trans hv
      have HW : Aside0 (stateOf w9 Bs = r.size) := ⟨by unfold stateOf; rw [cb]⟩
      clear cp cb cv hp hb hv hJr hk3 hy hR
      have cp := hp3.cell
      have cb := hb3.cell
      have cv := hv3.cell
      have cf := hb3.frozen
      gi_wp2
      go_roundw
      case rel =>
        have hg := grownBy_setCell' W3 Bs (.string (r.extract (j + 1) r.size))
        exact ⟨pre ++ [r.extract 0 j], r.extract (j + 1) r.size, k', ⟨by rw [HN.out]; simp, HS.out.1, HS.out.2.1⟩, hJ _ _ _ hJ3 hg, hp3.kept hg (by intro e; injection e with e; exact h1 e), hb3.set _, hv3.kept hg (by intro e; injection e with e; exact h2 e)⟩
      case measure =>
        have : stateOf (W3.setCell ⟨Bs, 0, none⟩ (.string (r.extract (j + 1) r.size))) Bs = (r.extract (j + 1) r.size).size := by unfold stateOf; rw [(hb3.set _).cell]
        rw [this, HW.out]
        exact HS.out.2.2
end Go.Proofs.YtbakoigejihnaaaGreatDoor.Rg
end
section
set_option linter.unusedSectionVars false
set_option linter.unusedSimpArgs false
set_option linter.unusedVariables false
namespace Go.Proofs.YtbakoigejihnaaaGreatDoor.Wp
open Go.RowKit Go.Proofs.YtbakoigejihnaaaGreatDoorW.PrintWords Go.Proofs.YtbakoigejihnaaaGreatDoorW.PrintLast Go.Proofs.YtbakoigejihnaaaGreatDoorW.PrintMore

def digitN (x : Nat) : Bool := decide (48 ≤ x ∧ x ≤ 57)
def partN (x : Nat) : Bool := decide (97 ≤ x ∧ x ≤ 122) || decide (65 ≤ x ∧ x ≤ 90) || digitN x || decide (x = 95)
def partB (c : UInt8) : Bool := partN c.toNat
theorem partN_le {x : Nat} (h : partN x = true) : 48 ≤ x ∧ x ≤ 122 := by
  unfold partN digitN at h
  simp only [Bool.or_eq_true, decide_eq_true_eq] at h
  omega
theorem part_no_blank {c : UInt8} (h : partB c = true) : blankB c = false := by
  have := partN_le h
  unfold blankB
  rw [decide_eq_false (by omega), decide_eq_false (by omega)]; rfl

theorem digit_ev (x : Nat) : Ref.normalize_digit.f (x : Int) = some (digitN x) := by
  unfold Ref.normalize_digit.f digitN
  by_cases h : 48 ≤ x
  · rw [if_pos (by omega)]; congr 1; rw [Bool.eq_iff_iff, decide_eq_true_eq, decide_eq_true_eq]; omega
  · rw [if_neg (by omega)]; congr 1; rw [decide_eq_false (by omega)]
theorem part_ev (x : Nat) : Ref.normalize_part.f (x : Int) = some (partN x) := by
  unfold Ref.normalize_part.f
  rw [digit_ev]
  have hc : (97 ≤ x ∧ x ≤ 122) ∨ (65 ≤ x ∧ x ≤ 90) ∨ (48 ≤ x ∧ x ≤ 57) ∨ x = 95 ∨ (¬ (97 ≤ x ∧ x ≤ 122) ∧ ¬ (65 ≤ x ∧ x ≤ 90) ∧ ¬ (48 ≤ x ∧ x ≤ 57) ∧ ¬ x = 95) := by omega
  have hd : digitN x = decide (48 ≤ x ∧ x ≤ 57) := rfl
  have hp : partN x = (decide (97 ≤ x ∧ x ≤ 122) || decide (65 ≤ x ∧ x ≤ 90) || decide (48 ≤ x ∧ x ≤ 57) || decide (x = 95)) := rfl
  have he : ((x : Int) == 95) = decide (x = 95) := by rw [Bool.eq_iff_iff, beq_iff_eq, decide_eq_true_eq]; omega
  rw [hd, hp, he]
  simp only [Option.bind_some]
  by_cases a1 : 97 ≤ x <;> by_cases a2 : x ≤ 122 <;> by_cases a3 : 65 ≤ x <;> by_cases a4 : x ≤ 90 <;> by_cases a5 : 48 ≤ x <;> by_cases a6 : x ≤ 57 <;> by_cases a7 : x = 95 <;>
    simp [a1, a2, a3, a4, a5, a6, a7, show ((97 : Int) ≤ (x : Int)) = (97 ≤ x) from by simp; omega, show ((x : Int) ≤ 122) = (x ≤ 122) from by simp; omega, show ((65 : Int) ≤ (x : Int)) = (65 ≤ x) from by simp; omega, show ((x : Int) ≤ 90) = (x ≤ 90) from by simp; omega]

theorem part_calls8 (c : UInt8) (w : World) : Calls Tryz.prog 46 #[.int .u8 (c.toNat : Int)] w fun e w' => e = .returned (.bool (partB c)) ∧ Drawn0 w w' :=
  Ref.normalize_part.calls (c.toNat : Int) (partB c) w (part_ev c.toNat)
theorem part_callsN (x : Nat) (w : World) : Calls Tryz.prog 46 #[.int .u8 (x : Int)] w fun e w' => e = .returned (.bool (partN x)) ∧ Drawn0 w w' :=
  Ref.normalize_part.calls (x : Int) (partN x) w (part_ev x)

/-- the rune at which a word ends -/
def endN (x : Nat) : Bool := decide (126 < x) || !partN x

set_option maxHeartbeats 4000000 in
theorem end_calls (x : Nat) (hx : x ≤ 1114111) (w : World) : Calls Tryz.prog 48 #[.int .i32 (x : Nat)] w fun e w' => e = .returned (.bool (endN x)) ∧ Drawn0 w w' := by
  by_cases h : 126 < x
  · have b1 : decide ((126 : Int) < (x : Int)) = true := by simp; omega
    have hr : endN x = true := by unfold endN; rw [decide_eq_true h]; rfl
    rw [hr]
    clear h hr
    go_enter Tryz.func48, Tryz.ntmps48
    go_wp2_with fail
    go_ret
    exact ⟨rfl, ⟨0, rfl⟩⟩
  · have b1 : decide ((126 : Int) < (x : Int)) = false := by simp; omega
    have hr : endN x = !partN x := by unfold endN; rw [decide_eq_false h]; rfl
    have hx2 : (x : Int) ≤ 126 := by omega
    have hx3 : (0 : Int) ≤ (x : Int) := by omega
    have hw : IntKind.u8.wrap (x : Int) = (x : Int) := by simp [IntKind.wrap, IntKind.bits, IntKind.signed]; omega
    have HP := part_callsN x
    rw [hr]
    clear h hr
    generalize partN x = b at HP
    have HP' := Aside0.mk HP
    clear HP
    go_enter Tryz.func48, Tryz.ntmps48
    go_wp2_with fail
    (with_reducible refine (HP'.out _).mono ?_)
    rintro e w' ⟨rfl, hd⟩
    have HD := Aside0.mk hd
    clear hd HP'
    go_wp2_with fail
    go_ret
    exact ⟨rfl, HD.out⟩

theorem end_pred (w : World) : PredAtRunes Tryz.prog 48 #[] endN w := fun W x hx _ =>
  (end_calls x hx W).mono fun _ _ ⟨he, m, hw⟩ => ⟨he, m, hw⟩

theorem endN_byte (c : UInt8) (h : c.toNat < 128) : endN c.toNat = !partB c := by
  unfold endN partB
  by_cases g : 126 < c.toNat
  · have : partN c.toNat = false := by
      cases e : partN c.toNat with
      | false => rfl
      | true => have := partN_le e; omega
    rw [this, decide_eq_true g]; rfl
  · rw [decide_eq_false g]; rfl

/-- how many bytes of a word stand at the head -/
def wordEnd (l : List UInt8) : Nat := (l.takeWhile partB).length
theorem wordEnd_le (l : List UInt8) : wordEnd l ≤ l.length := by unfold wordEnd; exact List.Sublist.length_le (List.takeWhile_sublist _)

theorem drop_byte {s : ByteArray} {pos : Nat} (h : pos < s.size) : s.data.toList.drop pos = s[pos]'h :: s.data.toList.drop (pos + 1) := by
  have h' : pos < s.data.toList.length := by simpa using h
  rw [List.drop_eq_getElem_cons h']
  rfl

theorem idx_word (s : ByteArray) : ∀ (f pos : Nat), pos ≤ s.size → s.size - pos ≤ f →
    Lib.idxFuncFrom endN true s f pos = if pos + wordEnd (s.data.toList.drop pos) < s.size then ((pos + wordEnd (s.data.toList.drop pos) : Nat) : Int) else -1
  | 0, pos, h, hf => by
    rw [if_neg (by omega)]; rfl
  | f + 1, pos, h, hf => by
    unfold Lib.idxFuncFrom
    by_cases hp : pos < s.size
    · rw [if_pos hp]
      have hd := drop_byte hp
      by_cases ha : (s[pos]'hp).toNat < 128
      · rw [decode_ascii s pos hp ha]
        simp only
        rw [endN_byte _ ha]
        cases hb : partB (s[pos]'hp) with
        | false =>
          have he : wordEnd (s.data.toList.drop pos) = 0 := by unfold wordEnd; rw [hd, List.takeWhile_cons_of_neg (by rw [hb]; decide)]; rfl
          rw [if_pos (by rfl), he, if_pos (by omega)]; rfl
        | true =>
          have he : wordEnd (s.data.toList.drop pos) = wordEnd (s.data.toList.drop (pos + 1)) + 1 := by unfold wordEnd; rw [hd, List.takeWhile_cons_of_pos hb]; rfl
          rw [if_neg (by decide), idx_word s f (pos + 1) (by omega) (by omega), he]
          rw [show pos + 1 + wordEnd (s.data.toList.drop (pos + 1)) = pos + (wordEnd (s.data.toList.drop (pos + 1)) + 1) by omega]
      · have hh := decode_high s pos hp (by omega)
        have he : endN (Utf8.decode s pos).1 = true := by unfold endN; rw [decide_eq_true (by omega)]; rfl
        rw [he, if_pos rfl]
        have hb : partB (s[pos]'hp) = false := by
          cases e : partB (s[pos]'hp) with
          | false => rfl
          | true => have := partN_le e; omega
        have he : wordEnd (s.data.toList.drop pos) = 0 := by unfold wordEnd; rw [hd, List.takeWhile_cons_of_neg (by rw [hb]; decide)]; rfl
        rw [he, if_pos (by omega)]; rfl
    · have : pos = s.size := by omega
      rw [if_neg hp, if_neg (by omega)]

theorem idx_word0 (s : ByteArray) : Lib.idxFunc endN true s = if wordEnd s.data.toList < s.size then ((wordEnd s.data.toList : Nat) : Int) else -1 := by
  have := idx_word s s.size 0 (by omega) (by omega)
  simpa [Lib.idxFunc] using this

theorem index_calls (s : ByteArray) (w : World) : Calls Tryz.prog 47 #[.string s, .func (.func 48) #[] #[]] w fun e w' => e = .returned (.int .i64 (if wordEnd s.data.toList < s.size then ((wordEnd s.data.toList : Nat) : Int) else -1)) ∧ Below w.heap.size w w' := by
  have := Tryz.strings_IndexFunc_runes 48 #[] (enters_of Tryz.func48 (by kernel_rfl) rfl) endN s w (end_pred w)
  rwa [idx_word0] at this

/-- the words of a line -/
def splitS : Nat → ByteArray → List ByteArray
  | 0, _ => []
  | k + 1, s => if h : 0 < s.size then (if blankB (s[0]'h) then splitS k (s.extract 1 s.size) else
      s.extract 0 (if partB (s[0]'h) then wordEnd s.data.toList else 1) :: splitS k (s.extract (if partB (s[0]'h) then wordEnd s.data.toList else 1) s.size)) else []
theorem splitS_end {k : Nat} {s : ByteArray} (h : s.size = 0) : splitS k s = [] := by
  cases k with
  | zero => rfl
  | succ k => unfold splitS; rw [dif_neg (by omega)]

theorem wordEnd_pos {s : ByteArray} (h : 0 < s.size) (hp : partB (s[0]'h) = true) : 1 ≤ wordEnd s.data.toList := by
  have := drop_byte h
  rw [List.drop_zero] at this
  unfold wordEnd
  rw [this, List.takeWhile_cons_of_pos hp]
  simp
theorem extract_list (s : ByteArray) (a b : Nat) : (s.extract a b).data.toList = (s.data.toList.take b).drop a := by
  rw [ByteArray.data_extract, Array.toList_extract, List.extract_eq_take_drop, List.drop_take]

theorem mem_tw {c : UInt8} : ∀ l : List UInt8, c ∈ l.takeWhile partB → partB c = true
  | [], h => by cases h
  | b :: l, h => by
    cases hb : partB b with
    | false => rw [List.takeWhile_cons_of_neg (by rw [hb]; decide)] at h; cases h
    | true =>
      rw [List.takeWhile_cons_of_pos hb] at h
      rcases List.mem_cons.1 h with rfl | h
      · exact hb
      · exact mem_tw l h
/-- a word of a line: not empty, not longer than the line, without a blank -/
def WordIs (n : Nat) (x : ByteArray) : Prop := 0 < x.size ∧ x.size ≤ n ∧ x.data.toList.any blankB = false
theorem splitS_words : ∀ (k : Nat) (s : ByteArray), (∀ x, x ∈ splitS k s → WordIs s.size x) ∧ (splitS k s).length ≤ s.size
  | 0, s => ⟨(fun x hx => by cases hx), Nat.zero_le _⟩
  | k + 1, s => by
    unfold splitS
    by_cases h : 0 < s.size
    · rw [dif_pos h]
      by_cases hb : blankB (s[0]'h) = true
      · rw [if_pos hb]
        obtain ⟨i1, i2⟩ := splitS_words k (s.extract 1 s.size)
        have hz : (s.extract 1 s.size).size = s.size - 1 := by rw [ByteArray.size_extract]; omega
        rw [hz] at i1 i2
        exact ⟨fun x hx => ⟨(i1 x hx).1, by have := (i1 x hx).2.1; omega, (i1 x hx).2.2⟩, by omega⟩
      · rw [if_neg hb]
        have hd := drop_byte h
        rw [List.drop_zero] at hd
        obtain ⟨n, hn⟩ : ∃ n, n = (if partB (s[0]'h) then wordEnd s.data.toList else 1) := ⟨_, rfl⟩
        rw [← hn]
        have hn1 : 1 ≤ n ∧ n ≤ s.size ∧ (s.data.toList.take n).any blankB = false := by
          have hwl := wordEnd_le s.data.toList
          rw [show s.data.toList.length = s.size by simp] at hwl
          by_cases hp : partB (s[0]'h) = true
          · rw [if_pos hp] at hn
            have := wordEnd_pos h hp
            refine ⟨by omega, by omega, ?_⟩
            rw [List.any_eq_false]
            intro c hc
            have ht : s.data.toList.take n = s.data.toList.takeWhile partB := by
              rw [hn]; unfold wordEnd
              exact (List.prefix_iff_eq_take.1 (List.takeWhile_prefix partB)).symm
            rw [ht] at hc
            have := mem_tw _ hc
            rw [part_no_blank this]; decide
          · rw [if_neg hp] at hn
            refine ⟨by omega, by omega, ?_⟩
            rw [hn, hd]
            simpa using hb
        obtain ⟨i1, i2⟩ := splitS_words k (s.extract n s.size)
        have hz : (s.extract n s.size).size = s.size - n := by rw [ByteArray.size_extract]; omega
        rw [hz] at i1 i2
        refine ⟨fun x hx => ?_, by rw [List.length_cons]; omega⟩
        rcases List.mem_cons.1 hx with rfl | hx
        · refine ⟨by rw [ByteArray.size_extract]; omega, by rw [ByteArray.size_extract]; omega, ?_⟩
          rw [extract_list, List.drop_zero]; exact hn1.2.2
        · exact ⟨(i1 x hx).1, by have := (i1 x hx).2.1; omega, (i1 x hx).2.2⟩
    · rw [dif_neg h]
      exact ⟨(fun x hx => by cases hx), Nat.zero_le _⟩
end Go.Proofs.YtbakoigejihnaaaGreatDoor.Wp
end
section
set_option linter.unusedSectionVars false
set_option linter.unusedSimpArgs false
set_option linter.unusedVariables false
namespace Go.Proofs.YtbakoigejihnaaaGreatDoor.Wp
open Go.RowKit Go.Proofs.YtbakoigejihnaaaGreatDoorW.PrintWords Go.Proofs.YtbakoigejihnaaaGreatDoorW.PrintLast Go.Proofs.YtbakoigejihnaaaGreatDoorW.PrintMore

theorem info_str : (Tryz.prog.info? 9).map (fun i => (i.zero, i.size, i.bytes)) = some (some (.string ⟨#[]⟩), 1, 16) := by kernel_rfl
abbrev AnyB : Nat → Prop := fun _ => True

theorem splitS_step {k : Nat} {r : ByteArray} (hk : r.size ≤ k) (h : 0 < r.size) : ∃ k', k = k' + 1 ∧ splitS k r = if blankB (r[0]'h) then splitS k' (r.extract 1 r.size) else
      r.extract 0 (if partB (r[0]'h) then wordEnd r.data.toList else 1) :: splitS k' (r.extract (if partB (r[0]'h) then wordEnd r.data.toList else 1) r.size) := by
  cases k with
  | zero => omega
  | succ k => exact ⟨k, rfl, by conv => lhs; unfold splitS; rw [dif_pos h]⟩

set_option maxHeartbeats 8000000 in
set_option maxRecDepth 100000 in
theorem split_calls (s : ByteArray) (hs : s.size ≤ 1000000) (w : World) : Calls Tryz.prog 18 #[.string s] w fun e w' => ∃ v, e = .returned v ∧ Kd.R Kd.string 9 w' w.heap.size AnyB v (splitS s.size s) ∧ Below w.heap.size w w' := by
  have HB0 := Aside0.mk (Below.refl w.heap.size w)
  go_enter Tryz.func18, Tryz.ntmps18
  go_wp2_with fail
  go_loopg [0, 3] s.size (fun gg v0 v3 wr => ∃ (r : ByteArray) (k : Nat) (out : List ByteArray), v0 = .string r ∧ Aside0 (r.size = gg ∧ r.size ≤ k ∧ r.size ≤ 1000000) ∧ Aside0 (splitS s.size s = out ++ splitS k r ∧ out.length + r.size ≤ s.size) ∧ Aside0 (Kd.R Kd.string 9 wr w.heap.size AnyB v3 out) ∧ Aside0 (Below w.heap.size w wr))
  case atStart => exact ⟨s, s.size, [], rfl, ⟨rfl, Nat.le_refl _, hs⟩, ⟨rfl, by simp⟩, ⟨Kd.R_nil _ _ _ _ _⟩, HB0⟩
  case round =>
    obtain ⟨r, k, out, rfl, HK, HE, HR, HB⟩ := hrel
    by_cases h0 : 0 < r.size
    · have he : r.toList.isEmpty = false := by
        rw [Lib.toList_data, List.isEmpty_eq_false_iff]
        intro h
        have := congrArg List.length h
        rw [← Lib.size_eq] at this
        simp only [List.length_nil] at this
        omega
      obtain ⟨k', rfl, hst⟩ := splitS_step HK.out.2.1 h0
      have HS := Aside0.mk hst
      clear hst
      have hbl : ∀ W, Calls Tryz.prog 45 #[.int .u8 ((r[0]'h0).toNat : Int)] W fun e w' => e = .returned (.bool (blankB (r[0]'h0))) ∧ Below W.heap.size W w' := fun W => blank_calls (r[0]'h0) W
      have hpt := fun W => part_calls8 (r[0]'h0) W
      have HBl := Aside0.mk hbl
      have HPt := Aside0.mk hpt
      clear hbl hpt
      go_wp2_with fail
      cases hbv : blankB (r[0]'h0) with
      | true =>
        rw [hbv] at HBl
        rw [hbv, if_pos rfl] at HS
        have HZ : Aside0 ((r.extract 1 r.size).size = r.size - 1) := ⟨by rw [ByteArray.size_extract]; omega⟩
        clear hbv HPt
        (with_reducible refine (HBl.out _).mono ?_)
        rintro e w2 ⟨rfl, hb2⟩
        have HR2 := Aside0.mk (Kd.R_below HR.out hb2)
        have HB2 : Aside0 (Below w.heap.size w w2) := ⟨HB.out.trans (hb2.mono HB.out.size)⟩
        have h1 : (1 : Int) ≤ (r.size : Int) := by omega
        clear hb2 HBl HR HB
        go_wp2_with fail
        go_roundg (r.extract 1 r.size).size
        case measure => have := HK.out; rw [HZ.out]; omega
        case rel =>
          exact ⟨r.extract 1 r.size, k', out, rfl, ⟨rfl, by rw [HZ.out]; have := HK.out; omega, by rw [HZ.out]; have := HK.out; omega⟩, ⟨by rw [HE.out.1, HS.out], by rw [HZ.out]; have := HE.out.2; omega⟩, HR2, HB2⟩
      | false =>
        rw [hbv] at HBl
        rw [hbv, if_neg (by decide)] at HS
        clear hbv
        (with_reducible refine (HBl.out _).mono ?_)
        rintro e w2 ⟨rfl, hb2⟩
        have HR2 := Aside0.mk (Kd.R_below HR.out hb2)
        have HB2 : Aside0 (Below w.heap.size w w2) := ⟨HB.out.trans (hb2.mono HB.out.size)⟩
        clear hb2 HBl HR HB
        cases hpv : partB (r[0]'h0) with
        | false =>
          rw [hpv] at HPt
          rw [hpv, if_neg (by decide)] at HS
          clear hpv
          go_wp2_with fail
          (with_reducible refine (HPt.out _).mono ?_)
          rintro e w3 ⟨rfl, hd⟩
          have HR := Aside0.mk (Kd.R_below HR2.out hd.below)
          have HB : Aside0 (Below w.heap.size w w3) := ⟨HB2.out.trans (hd.below.mono HB2.out.size)⟩
          have HZ : Aside0 ((r.extract 1 r.size).size = r.size - 1) := ⟨by rw [ByteArray.size_extract]; omega⟩
          have h1 : (1 : Int) ≤ (r.size : Int) := by omega
          clear hd HPt HR2 HB2
          obtain ⟨n, hn⟩ : ∃ n : Nat, n = 1 := ⟨1, rfl⟩
          clear hn n
          go_wp2_with ((with_reducible refine gate_builtin (b := .append) (xs := #[.tmp 23, .tmp 27]) rfl ?_); at_builtin; refine Kd.R_append Kd.string (w0 := w) w.heap.size rfl (.tmp 23) (.tmp 27) 54 9 (.string ⟨#[]⟩) 16 rfl Tryz.underlying54 info_str rfl (by decide) (by omega) u3 out (r.extract 0 1) [.string (r.extract 0 1)] (fun _ => True) (fun _ => False) rfl rfl ?aP (fun _ hk => hk.elim) ?aF ?aO ?aB ?aS ?aL ?_)
          case aP => exact rfl
          case aF => exact fun _ _ => trivial
          case aO => exact HR.out
          case aB => exact HB.out
          case aS => exact HB.out.size
          case aL => have := HE.out.2; omega
          intro v1 w5 ho hb hg hat
          have HO5 := Aside0.mk ho
          have HB5 := Aside0.mk hb
          clear ho hb hg hat
          go_wp2_with fail
          go_roundg (r.extract 1 r.size).size
          case measure => have := HK.out; rw [HZ.out]; omega
          case rel =>
            exact ⟨r.extract 1 r.size, k', _, rfl, ⟨rfl, by rw [HZ.out]; have := HK.out; omega, by rw [HZ.out]; have := HK.out; omega⟩, ⟨by rw [HE.out.1, HS.out]; simp, by rw [List.length_append, HZ.out]; have := HE.out.2; simp; omega⟩, HO5, HB5⟩
        | true =>
          have hw1 := wordEnd_pos h0 hpv
          rw [hpv] at HPt
          rw [hpv, if_pos rfl] at HS
          have hwl := wordEnd_le r.data.toList
          rw [show r.data.toList.length = r.size by simp] at hwl
          have HIx := Aside0.mk (index_calls r)
          generalize wordEnd r.data.toList = n at hw1 hwl HS HIx
          clear hpv
          go_wp2_with fail
          (with_reducible refine (HPt.out _).mono ?_)
          rintro e w3 ⟨rfl, hd⟩
          have HR3 := Aside0.mk (Kd.R_below HR2.out hd.below)
          have HB3 : Aside0 (Below w.heap.size w w3) := ⟨HB2.out.trans (hd.below.mono HB2.out.size)⟩
          clear hd HPt HR2 HB2
          go_wp2_with fail
          (with_reducible refine (HIx.out _).mono ?_)
          rintro e w4 ⟨rfl, hb4⟩
          have HR := Aside0.mk (Kd.R_below HR3.out hb4)
          have HB : Aside0 (Below w.heap.size w w4) := ⟨HB3.out.trans (hb4.mono HB3.out.size)⟩
          have HZ : Aside0 ((r.extract n r.size).size = r.size - n) := ⟨by rw [ByteArray.size_extract]; omega⟩
          clear hb4 HIx HR3 HB3
          by_cases hlt : n < r.size
          · rw [if_pos hlt]
            have b1 : decide (((n : Nat) : Int) < 0) = false := by simp
            go_wp2_with ((with_reducible refine gate_builtin (b := .append) (xs := #[.tmp 23, .tmp 27]) rfl ?_); at_builtin; refine Kd.R_append Kd.string (w0 := w) w.heap.size rfl (.tmp 23) (.tmp 27) 54 9 (.string ⟨#[]⟩) 16 rfl Tryz.underlying54 info_str rfl (by decide) (by omega) u3 out (r.extract 0 n) [.string (r.extract 0 n)] (fun _ => True) (fun _ => False) rfl rfl ?aP (fun _ hk => hk.elim) ?aF ?aO ?aB ?aS ?aL ?_)
            case aP => exact rfl
            case aF => exact fun _ _ => trivial
            case aO => exact HR.out
            case aB => exact HB.out
            case aS => exact HB.out.size
            case aL => have := HE.out.2; omega
            intro v1 w5 ho hb hg hat
            have HO5 := Aside0.mk ho
            have HB5 := Aside0.mk hb
            clear ho hb hg hat
            go_wp2_with fail
            go_roundg (r.extract n r.size).size
            case measure => have := HK.out; rw [HZ.out]; omega
            case rel =>
              exact ⟨r.extract n r.size, k', _, rfl, ⟨rfl, by rw [HZ.out]; have := HK.out; omega, by rw [HZ.out]; have := HK.out; omega⟩, ⟨by rw [HE.out.1, HS.out]; simp, by rw [List.length_append, HZ.out]; have := HE.out.2; simp; omega⟩, HO5, HB5⟩
          · have hne : n = r.size := by omega
            rw [if_neg hlt]
            subst hne
            have HX : Aside0 (r.extract 0 r.size = r) := ⟨by simp⟩
            have HY : Aside0 (r.extract r.size r.size = ByteArray.empty) := ⟨by simp⟩
            go_wp2_with ((with_reducible refine gate_builtin (b := .append) (xs := #[.tmp 23, .tmp 27]) rfl ?_); at_builtin; refine Kd.R_append Kd.string (w0 := w) w.heap.size rfl (.tmp 23) (.tmp 27) 54 9 (.string ⟨#[]⟩) 16 rfl Tryz.underlying54 info_str rfl (by decide) (by omega) u3 out r [.string r] (fun _ => True) (fun _ => False) rfl rfl ?aP (fun _ hk => hk.elim) ?aF ?aO ?aB ?aS ?aL ?_)
            case aP => exact rfl
            case aF => exact fun _ _ => trivial
            case aO => exact HR.out
            case aB => exact HB.out
            case aS => exact HB.out.size
            case aL => have := HE.out.2; omega
            intro v1 w5 ho hb hg hat
            have HO5 := Aside0.mk ho
            have HB5 := Aside0.mk hb
            clear ho hb hg hat
            go_wp2_with fail
            go_roundg (r.extract r.size r.size).size
            case measure => have := HK.out; rw [HZ.out]; omega
            case rel =>
              exact ⟨r.extract r.size r.size, k', _, by rw [HY.out], ⟨rfl, by rw [HZ.out]; have := HK.out; omega, by rw [HZ.out]; have := HK.out; omega⟩, ⟨by rw [HE.out.1, HS.out, HX.out]; simp, by rw [List.length_append, HZ.out]; have := HE.out.2; simp; omega⟩, HO5, HB5⟩
    · have h00 : r.size = 0 := by omega
      have he : r.toList.isEmpty = true := by
        rw [Lib.toList_data, List.isEmpty_iff]
        exact List.eq_nil_of_length_eq_zero (by rw [← Lib.size_eq]; exact h00)
      have HEnd : Aside0 (splitS s.size s = out) := ⟨by rw [HE.out.1, splitS_end h00, List.append_nil]⟩
      clear h00 h0
      go_wp2_with fail
      go_ret
      exact ⟨_, rfl, by rw [HEnd.out]; exact HR.out, HB.out⟩
end Go.Proofs.YtbakoigejihnaaaGreatDoor.Wp
end
section
set_option linter.unusedSectionVars false
set_option linter.unusedSimpArgs false
set_option linter.unusedVariables false
namespace Go.Proofs.YtbakoigejihnaaaGreatDoor.Wp
open Go.RowKit Go.Proofs.YtbakoigejihnaaaGreatDoorW.PrintWords Go.Proofs.YtbakoigejihnaaaGreatDoorW.PrintLast Go.Proofs.YtbakoigejihnaaaGreatDoorW.PrintMore

/-- what the library's functions read -/
structure LibAt (w : World) : Prop where
  max : MaxAt w
  tab : Lib.TabIs Tryz.prog w "internal/strconv.uint64pow10" .u64 Lib.pow10Tab
  err : ∃ ev, w.cell? ⟨3, 0, none⟩ = some ev ∧ (ev = .nilIface ∨ ∃ te pe, ev = .iface te pe)
theorem g_tab : Tryz.prog.globalNamed "internal/strconv.uint64pow10" = some 5 := by kernel_rfl
theorem LibAt.of {w w' : World} (h : LibAt w) (hb : Below w.heap.size w w') : LibAt w' := by
  obtain ⟨ev, hc, he⟩ := h.err
  exact ⟨h.max.of hb, Joins.tab_stays g_tab h.tab hb (Nat.le_refl _), ev, (hb.cell (World.block_lt_of_cell? _ _ hc)).trans hc, he⟩

/-- a word, or its class -/
def headN (w : ByteArray) : Nat := if h : 0 < w.size then (w[0]'h).toNat else 0
def classW (names numbers : Bool) (w : ByteArray) : ByteArray := if digitN (headN w) && numbers then ⟨#[36, 48]⟩ else if partN (headN w) && !digitN (headN w) && names then ⟨#[36, 110]⟩ else w

theorem bt_head {w : ByteArray} (h : 0 < w.size) : bt w 0 = (headN w : Int) := by unfold headN; rw [dif_pos h]; simp [bt, h]
theorem class_ev (w : ByteArray) (names numbers : Bool) (h : 0 < w.size) : Ref.normalize_class.f 1 w names numbers = some (classW names numbers w) := by
  unfold Ref.normalize_class.f classW
  rw [if_pos (by omega), bt_head h, digit_ev, Option.bind_some]
  simp only [Ref.normalize_class.j0, part_ev, digit_ev, Option.bind_some]
  cases digitN (headN w) <;> cases partN (headN w) <;> cases names <;> cases numbers <;> rfl
theorem class_calls (w : ByteArray) (names numbers : Bool) (h : 0 < w.size) (W : World) : Calls Tryz.prog 20 #[.string w, .bool names, .bool numbers] W fun e W' => e = .returned (.string (classW names numbers w)) ∧ Drawn0 W W' :=
  Ref.normalize_class.calls 1 w names numbers _ W (class_ev w names numbers h)
theorem classW_is {names numbers : Bool} {w : ByteArray} {n : Nat} (h : WordIs n w) : WordIs (n + 2) (classW names numbers w) := by
  unfold classW
  split
  · exact ⟨by decide, by show 2 ≤ n + 2; omega, by decide⟩
  · split
    · exact ⟨by decide, by show 2 ≤ n + 2; omega, by decide⟩
    · exact ⟨h.1, by have := h.2.1; omega, h.2.2⟩

/-- the number of a note, or -1 -/
def noteV : List ByteArray → Int
  | [a, b] => if a.toList == [110, 111, 116, 101] then (if 4 < b.size then -1 else match Lib.atoi b.data.toList with
    | none => -1
    | some n => if (⟨(Lib.itoa n).toArray⟩ : ByteArray).toList == b.toList then n else -1) else -1
  | _ => -1
theorem noteV_len {ws : List ByteArray} (h : ws.length ≠ 2) : noteV ws = -1 := by
  match ws, h with
  | [], _ => rfl
  | [_], _ => rfl
  | [_, _], h => simp at h
  | _ :: _ :: _ :: _, _ => rfl

theorem atoi_calls (s : ByteArray) (n : Int) (hl : s.size ≤ 18) (h : Lib.atoi s.data.toList = some n) (w : World) :
    Calls Tryz.prog 49 #[.string s] w fun e w' => e = .returned (.tuple #[.int .i64 n, .nilIface]) ∧ Below w.heap.size w w' :=
  (Any.strconv_Atoi { Tryz.lays172c with } s n hl h w).mono fun e w' ⟨he, t, hw⟩ => ⟨he, by rw [hw]; exact Lib.bytesWorld_below _ _ _⟩
theorem atoi_err (s : ByteArray) (hl : s.size ≤ 18) (h : Lib.atoi s.data.toList = none) (w : World) (hL : LibAt w) :
    Calls Tryz.prog 49 #[.string s] w fun e w' => ∃ N, e = .returned (.tuple #[.int .i64 0, .iface 168 (.pointer (some ⟨N, 0, none⟩))]) ∧ Below w.heap.size w w' := by
  obtain ⟨ev, hc, he⟩ := hL.err
  exact (Any.strconv_Atoi_err Tryz.lays172c s hl h ev w hc he).mono fun e w' ⟨N, he, _, _, hb⟩ => ⟨N, he, hb⟩
theorem itoa_calls (n : Int) (h0 : -1000000000000000000 < n) (h1 : n < 1000000000000000000) (w : World) (hL : LibAt w) :
    Calls Tryz.prog 50 #[.int .i64 n] w fun e w' => e = .returned (.string ⟨(Lib.itoa n).toArray⟩) ∧ Below w.heap.size w w' :=
  (Tryz.strconv_Itoa n (by omega) (by omega) w hL.tab).mono fun e w' ⟨he, k, os, hw⟩ => ⟨he, by rw [hw]; exact Lib.below_grow _ w (Nat.le_refl _) k os⟩

theorem below_drewN {B : Nat} {w w' : World} (h : Below B w w') (m : Nat) : Below B w (w'.drewN m) := h.trans ⟨rfl, rfl, rfl, Nat.le_refl _, fun _ _ => rfl⟩
theorem at_str {w : World} {A : Option Addr} {n : Nat} {xs : List ByteArray} (h : Kd.C Kd.string w A n xs) {i : Nat} (hi : i < xs.length) : ∃ ad, A = some ad ∧ w.cell? (ad.add i) = some (.string xs[i]) := by
  obtain ⟨ad, e, hc⟩ := h.2.2 (by have := h.1; omega)
  obtain ⟨cs, hl, hK, hcell⟩ := hc i xs[i] (List.getElem?_eq_getElem hi)
  have hcs : cs = [.string xs[i]] := hK
  subst hcs
  refine ⟨ad, e, ?_⟩
  have := hcell 0 (.string xs[i]) rfl
  have e1 : Kd.string.sz = 1 := rfl
  rwa [e1, Nat.mul_one, Nat.add_zero] at this

set_option maxHeartbeats 8000000 in
set_option maxRecDepth 100000 in
theorem note_calls (ws : List ByteArray) (A : Option Addr) (c : Nat) (w : World) (hL : LibAt w) (hC : Kd.C Kd.string w A ws.length ws) (hl : ws.length ≤ 1000000) (hs : ∀ x, x ∈ ws → x.size ≤ 1000000) :
    Calls Tryz.prog 19 #[.slice A ws.length c] w fun e w' => e = .returned (.int .i64 (noteV ws)) ∧ Below w.heap.size w w' := by
  by_cases h2 : ws.length = 2
  · obtain ⟨a, b, rfl⟩ : ∃ a b, ws = [a, b] := by
      match ws, h2 with
      | [a, b], _ => exact ⟨a, b, rfl⟩
    obtain ⟨ad, rfl, p0⟩ := at_str hC (i := 0) (by simp)
    obtain ⟨ad', e1, p1⟩ := at_str hC (i := 1) (by simp)
    obtain rfl : ad = ad' := by injection e1
    have hb := hs b (by simp)
    have HLb := Aside0.mk hL
    have e0 : ad.add 0 = ad := by simp [Addr.add]
    have e2 : ad.add 1 = ⟨ad.block, ad.off + 1, none⟩ := by simp [Addr.add]
    simp only [List.getElem_cons_zero, List.getElem_cons_succ] at p0 p1
    rw [e0] at p0
    rw [e2] at p1
    clear hL hC hs h2 e0 e2 e1 hl
    cases hn : a.toList == [110, 111, 116, 101] with
    | false =>
      have HN : Aside0 (noteV [a, b] = -1) := ⟨by simp only [noteV, hn]; rfl⟩
      rw [HN.out]
      go_enter Tryz.func19, Tryz.ntmps19
      go_wp2_with fail
      go_ret
      exact ⟨rfl, Below.refl _ _⟩
    | true =>
      by_cases h4 : 4 < b.size
      · have HN : Aside0 (noteV [a, b] = -1) := ⟨by simp only [noteV, hn, if_true, if_pos h4]⟩
        have b4 : decide ((4 : Int) < (b.size : Int)) = true := by simp; omega
        rw [HN.out]
        clear h4
        go_enter Tryz.func19, Tryz.ntmps19
        go_wp2_with fail
        go_ret
        exact ⟨rfl, Below.refl _ _⟩
      · have b4 : decide ((4 : Int) < (b.size : Int)) = false := by simp; omega
        cases hat : Lib.atoi b.data.toList with
        | none =>
          have HN : Aside0 (noteV [a, b] = -1) := ⟨by simp only [noteV, hn, if_true, if_neg h4, hat]⟩
          have HA := Aside0.mk (atoi_err b (by omega) hat)
          rw [HN.out]
          clear h4 hat
          go_enter Tryz.func19, Tryz.ntmps19
          go_wp2_with fail
          (with_reducible refine (HA.out _ HLb.out).mono ?_)
          rintro e w2 ⟨N, rfl, hb2⟩
          have HB2 := Aside0.mk hb2
          clear hb2 HA
          go_wp2_with fail
          go_quiet (fail)
          go_wp2_with fail
          go_ret
          exact ⟨rfl, below_drewN HB2.out _⟩
        | some n =>
          have HA := Aside0.mk (atoi_calls b n (by omega) hat)
          obtain ⟨n0, n1⟩ := Lib.atoi_bound hat (by simp; omega)
          have HI := Aside0.mk (itoa_calls n n0 n1)
          have HN : Aside0 (noteV [a, b] = if (⟨(Lib.itoa n).toArray⟩ : ByteArray).toList == b.toList then n else -1) := ⟨by simp only [noteV, hn, if_true, if_neg h4, hat]⟩
          rw [HN.out]
          clear h4 hat
          generalize (⟨(Lib.itoa n).toArray⟩ : ByteArray) = st at HI ⊢
          go_enter Tryz.func19, Tryz.ntmps19
          go_wp2_with fail
          (with_reducible refine (HA.out _).mono ?_)
          rintro e w2 ⟨rfl, hb2⟩
          have p1' := (hb2.cell (World.block_lt_of_cell? _ _ p1)).trans p1
          have HB2 := Aside0.mk hb2
          clear HA p0 p1 hb2
          go_wp2_with fail
          have hbb : Below w.heap.size w w2.drew := HB2.out.drew
          go_region_held3 (fun w' => w'.cell? ⟨ad.block, ad.off + 1, none⟩ = some (.string b))
            (first | go_keep | exact (hbk.cell (World.block_lt_of_cell? _ _ (by assumption))).trans (by assumption))
            ((go_at_call 50; with_reducible refine (HI.out _ (HLb.out.of (by assumption))).mono ?_; rintro e w' ⟨rfl, hbk⟩; have hbb := hbb.trans (hbk.mono hbb.size)))
          have HBf := Aside0.mk hbb
          clear hbb hbk HI
          cases hst : st.toList == b.toList with
          | true =>
            go_wp2_with fail
            all_goals
              go_ret
              exact ⟨by first | rfl | simp, HBf.out⟩
          | false =>
            go_wp2_with fail
            all_goals
              go_ret
              exact ⟨by first | rfl | simp, HBf.out⟩
  · have HN : Aside0 (noteV ws = -1) := ⟨noteV_len h2⟩
    have b0 : ((ws.length : Int) != 2) = true := by rw [bne_iff_ne]; omega
    have b1 : ((ws.length : Int) == 2) = false := by rw [beq_eq_false_iff_ne]; omega
    rw [HN.out]
    clear hC h2 hs hL
    go_enter Tryz.func19, Tryz.ntmps19
    go_wp2_with fail
    go_ret
    exact ⟨rfl, Below.refl _ _⟩
end Go.Proofs.YtbakoigejihnaaaGreatDoor.Wp
end
