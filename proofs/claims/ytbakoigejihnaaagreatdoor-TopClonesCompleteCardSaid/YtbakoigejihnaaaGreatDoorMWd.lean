/- normalize.Words, walked: the words of a text. Conditions: none. -/
import Derived.Test.YtbakoigejihnaaaGreatDoorMLine
import Derived.RangeFuncCalls
import Derived.RangeFuncBox
import Derived.OrdersIn
import Derived.OrdersHeld
import Derived.OwnWalkIn
import Derived.Deep.RegionHeld
import Derived.Sort.LoopGhostIn
section
set_option linter.unusedSectionVars false
set_option linter.unusedSimpArgs false
set_option linter.unusedVariables false
namespace Go.Proofs.YtbakoigejihnaaaGreatDoor.Wp
open Go.RowKit Go.Proofs.YtbakoigejihnaaaGreatDoorW.PrintWords Go.Proofs.YtbakoigejihnaaaGreatDoorW.PrintLast Go.Proofs.YtbakoigejihnaaaGreatDoorW.PrintMore
open Ref (Lx)
open Rg (pieces)

def lineStep (names numbers : Bool) (st : List Lx × Nat × Int) (line : ByteArray) : List Lx × Nat × Int :=
  if 0 < st.2.2 then (st.1, st.2.1 + 1, st.2.2 - 1) else if 0 ≤ noteV (splitS line.size line) then (st.1, st.2.1 + 1, noteV (splitS line.size line))
  else (st.1 ++ (splitS line.size line).map (fun x => ⟨classW names numbers x, (st.2.1 : Nat)⟩), st.2.1 + 1, st.2.2)
def linesOf (names numbers : Bool) (pre : List ByteArray) : List Lx × Nat × Int := pre.foldl (lineStep names numbers) ([], 0, 0)
def wordsOf (names numbers : Bool) (data : ByteArray) : List Lx := (linesOf names numbers (pieces data.size data)).1
theorem linesOf_snoc (names numbers : Bool) (pre : List ByteArray) (x : ByteArray) : linesOf names numbers (pre ++ [x]) = lineStep names numbers (linesOf names numbers pre) x := by
  unfold linesOf; rw [List.foldl_append]; rfl

theorem noteV_bound (ws : List ByteArray) : noteV ws < 1000000000000000000 := by
  have h1 : (-1 : Int) < 1000000000000000000 := by decide
  match ws with
  | [] => exact h1
  | [_] => exact h1
  | _ :: _ :: _ :: _ => exact h1
  | [a, b] =>
    simp only [noteV]
    cases a.toList == [110, 111, 116, 101] with
    | false => exact h1
    | true =>
      rw [if_pos rfl]
      by_cases h4 : 4 < b.size
      · rw [if_pos h4]; exact h1
      · rw [if_neg h4]
        cases hn : Lib.atoi b.data.toList with
        | none => exact h1
        | some n =>
          simp only
          split
          · exact (Lib.atoi_bound hn (by simp; omega)).2
          · exact h1

structure LOk (B : Nat) (pre : List ByteArray) (st : List Lx × Nat × Int) : Prop where
  at_ : st.2.1 = pre.length
  skip : 0 ≤ st.2.2 ∧ st.2.2 < 1000000000000000000
  len : st.1.length ≤ (pre.map ByteArray.size).sum
  words : ∀ x, x ∈ st.1 → WordIs (B + 2) x.f0 ∧ 0 ≤ x.f1 ∧ x.f1 < (pre.length : Int)
  sorted : st.1.Pairwise fun a b => a.f1 ≤ b.f1

theorem lok_step {B : Nat} {names numbers : Bool} {pre : List ByteArray} {x : ByteArray} {st : List Lx × Nat × Int} (h : LOk B pre st) (hx : x.size ≤ B) : LOk B (pre ++ [x]) (lineStep names numbers st x) := by
  obtain ⟨out, a, sk⟩ := st
  obtain ⟨h1, h2, h3, h4, h5⟩ := h
  simp only at h1 h2 h3 h4 h5
  have hw := splitS_words x.size x
  unfold lineStep
  simp only
  split
  · exact ⟨by simp [h1], ⟨by simp only; omega, by simp only; omega⟩, by simp; omega, fun y hy => by have := h4 y hy; exact ⟨this.1, this.2.1, by simp; omega⟩, h5⟩
  · split
    · exact ⟨by simp [h1], ⟨by simp only; omega, noteV_bound _⟩, by simp; omega, fun y hy => by have := h4 y hy; exact ⟨this.1, this.2.1, by simp; omega⟩, h5⟩
    · refine ⟨by simp [h1], h2, by simp; omega, fun y hy => ?_, ?_⟩
      · rcases List.mem_append.1 hy with hy | hy
        · have := h4 y hy; exact ⟨this.1, this.2.1, by simp; omega⟩
        · obtain ⟨z, hz, rfl⟩ := List.mem_map.1 hy
          obtain ⟨g1, g2, g3⟩ := classW_is (names := names) (numbers := numbers) (hw.1 z hz)
          exact ⟨⟨g1, Nat.le_trans g2 (by omega), g3⟩, by simp, by simp; omega⟩
      · rw [List.pairwise_append]
        refine ⟨h5, ?_, fun y hy z hz => ?_⟩
        · rw [List.pairwise_map]
          exact List.Pairwise.imp (fun _ => Int.le_refl _) (List.pairwise_of_forall (R := fun _ _ => True) (fun _ _ => trivial))
        · obtain ⟨z', _, rfl⟩ := List.mem_map.1 hz
          have := (h4 y hy).2.2
          simp only
          omega

theorem lok_all {B : Nat} (names numbers : Bool) : ∀ (n : Nat) (pre : List ByteArray), pre.length = n → (∀ x, x ∈ pre → x.size ≤ B) → LOk B pre (linesOf names numbers pre)
  | 0, pre, hn, _ => by
    obtain rfl := List.eq_nil_of_length_eq_zero hn
    exact ⟨rfl, ⟨Int.le_refl 0, by show (0 : Int) < 1000000000000000000; decide⟩, Nat.le_refl _, (fun x hx => by cases hx), List.Pairwise.nil⟩
  | n + 1, pre, hn, hx => by
    obtain ⟨L, b, rfl⟩ : ∃ L b, pre = L ++ [b] := by
      rcases List.eq_nil_or_concat pre with e | ⟨L, b, e⟩
      · rw [e] at hn; simp at hn
      · exact ⟨L, b, by simpa using e⟩
    rw [linesOf_snoc]
    exact lok_step (lok_all names numbers n L (by simpa using hn) (fun x h => hx x (List.mem_append_left _ h))) (hx b (by simp))

theorem pieces_sum : ∀ (k : Nat) (s : ByteArray), s.size ≤ k → ((pieces k s).map ByteArray.size).sum + (pieces k s).length = s.size + 1
  | 0, s, h => by simp [pieces]
  | k + 1, s, h => by
    by_cases hi : Lib.indexByte s.data.toList 10 < 0
    · rw [Rg.pieces_stop hi]; simp
    · have hlt := Rg.idx_lt s.data.toList 10 (by omega)
      rw [show s.data.toList.length = s.size by simp] at hlt
      unfold pieces
      rw [if_neg hi]
      have ih := pieces_sum k (s.extract ((Lib.indexByte s.data.toList 10).toNat + 1) s.size) (by rw [ByteArray.size_extract]; omega)
      rw [ByteArray.size_extract] at ih
      simp only [List.map_cons, List.sum_cons, List.length_cons, ByteArray.size_extract]
      omega
theorem sum_part {l : List ByteArray} {pre rest : List ByteArray} {x : ByteArray} (h : l = pre ++ x :: rest) : (l.map ByteArray.size).sum = (pre.map ByteArray.size).sum + x.size + (rest.map ByteArray.size).sum := by
  subst h; simp; omega
theorem piece_le {s x : ByteArray} (h : x ∈ pieces s.size s) : x.size ≤ s.size := by
  obtain ⟨pre, rest, e⟩ := List.append_of_mem h
  have h1 := pieces_sum s.size s (Nat.le_refl _)
  have h2 := sum_part e
  have h3 : 1 ≤ (pieces s.size s).length := by rw [e]; simp; omega
  omega

theorem words_lok (names numbers : Bool) (data : ByteArray) : LOk data.size (pieces data.size data) (linesOf names numbers (pieces data.size data)) :=
  lok_all names numbers _ _ rfl fun x hx => piece_le hx

theorem wordsOk_of : ∀ (l : List Lx) (least : Int), (∀ x, x ∈ l → 0 < x.f0.size ∧ x.f0.data.toList.any blankB = false ∧ least ≤ x.f1 ∧ x.f1 < 1024) → l.Pairwise (fun a b => a.f1 ≤ b.f1) → wordsOk least l = true
  | [], _, _, _ => rfl
  | x :: l, least, h, hp => by
    obtain ⟨h1, h2, h3, h4⟩ := h x (by simp)
    have hw : wordOk least x = true := by
      unfold wordOk
      rw [if_neg (by omega), if_neg (by rw [h2]; decide), if_neg (by omega), if_neg (by omega)]
    unfold wordsOk
    rw [if_pos hw]
    obtain ⟨hp1, hp2⟩ := List.pairwise_cons.1 hp
    exact wordsOk_of l x.f1 (fun y hy => by have := h y (by simp [hy]); exact ⟨this.1, this.2.1, hp1 y hy, this.2.2.2⟩) hp2

theorem words_len (names numbers : Bool) (data : ByteArray) : (wordsOf names numbers data).length ≤ data.size := by
  have h1 := (words_lok names numbers data).len
  have h2 := pieces_sum data.size data (Nat.le_refl _)
  have h3 : 1 ≤ (pieces data.size data).length := by
    rcases Nat.eq_zero_or_pos (pieces data.size data).length with g | g
    · have : pieces data.size data = [] := List.eq_nil_of_length_eq_zero g
      cases hk : data.size with
      | zero => rw [hk] at this; cases this
      | succ k => rw [hk] at this; unfold pieces at this; split at this <;> cases this
    · exact g
  unfold wordsOf
  omega
theorem words_valid {path data : ByteArray} (names numbers : Bool) (hp : pathOk path = true) (hd : data.size ≤ 1000) : validT ⟨path, wordsOf names numbers data⟩ = true := by
  have hl := words_len names numbers data
  have ho := words_lok names numbers data
  have h2 := pieces_sum data.size data (Nat.le_refl _)
  unfold validT
  rw [if_neg (by simp only; omega), if_pos hp]
  exact wordsOk_of _ 0 (fun x hx => by have := ho.words x hx; exact ⟨this.1.1, this.1.2.2, this.2.1, by omega⟩) ho.sorted
theorem words_small {path data : ByteArray} (names numbers : Bool) (hp : path.size ≤ 1000000) (hd : data.size ≤ 1000) : TxSmall ⟨path, wordsOf names numbers data⟩ := by
  have hl := words_len names numbers data
  have ho := words_lok names numbers data
  exact ⟨hp, by simp only; omega, fun x hx => by have := (ho.words x hx).1.2.1; omega⟩
end Go.Proofs.YtbakoigejihnaaaGreatDoor.Wp
end
section
set_option linter.unusedSectionVars false
set_option linter.unusedSimpArgs false
set_option linter.unusedVariables false
namespace Go.Proofs.YtbakoigejihnaaaGreatDoor.Rg
section
variable {P : Program} {ops : Array Oper} {Q : Exit → Act → World → Prop} {md : Region.Mode}
theorem wpOp_round (l n : Nat) {i : Nat} {K : Act → World → Prop} {a : Act} {w : World} (hd : ∀ o, ops[i]? = some o → ∀ c, o.op ≠ .defer c) (hno : ¬ LetsOut Q) (h : wpOp P ops Q i K a w) : wpOpIn (Fence.wide.inRound l) n P ops Q i K a w := by
  unfold wpOp at h
  unfold wpOpIn
  cases ho : ops[i]? with
  | none => simp only [ho] at h ⊢; exact h
  | some o =>
    simp only [ho] at h ⊢
    by_cases hw : Region.wanted o (yielded ops a.tmps) = true
    · rw [if_pos hw] at h ⊢
      rcases h with h | ⟨_, h⟩
      · refine ⟨fun _ _ => trivial, ?_⟩
        rw [Oper.semAt_plain _ _ _ (hd o ho)]
        unfold Oper.wp at h
        generalize (execOp a.eval o).run P w = r at h ⊢
        cases r with
        | ok x w' =>
          cases x with
          | enter f args =>
            refine ⟨fun hh => (by cases hh), (CallsIn.inRound l (callsIn_wide.2 h)).mono fun e w'' he => ?_⟩
            cases e <;> exact he
          | row row args =>
            refine ⟨fun hh => (by cases hh), fun c cs _ => ?_⟩
            obtain ⟨v, w'', hR, hs⟩ := h c cs
            exact ⟨v, w'', hR, stepsIn_wide.2 hs⟩
          | _ => first | exact h | exact h.elim
        | halt x w' =>
          cases x <;> exact h
      · exact absurd h hno
    · rw [if_neg hw] at h ⊢
      exact ⟨fun _ _ => trivial, h⟩

theorem wpAny_round (l n : Nat) (hd : ∀ (i : Nat) (o : Oper), ops[i]? = some o → ∀ c, o.op ≠ .defer c) (hno : ¬ LetsOut Q) : ∀ (fuel : Nat) (listed : Array Bool) (a : Act) (w : World), wpAny P md ops Q fuel listed a w → wpAnyIn (Fence.wide.inRound l) n P md ops Q fuel listed a w
  | 0, _, _, _, h => h
  | fuel + 1, listed, a, w, h => ⟨h.1, fun i hi => wpOpIn_mono (fun a' w' h' => wpAny_round l n hd hno fuel _ a' w' h') (wpOp_round l n (hd i) hno (h.2 i hi))⟩

def isDefer (o : Oper) : Bool := match o.op with
  | .defer _ => true
  | _ => false
theorem noDefer_spec (h : ops.toList.all (fun o => !isDefer o) = true) : ∀ (i : Nat) (o : Oper), ops[i]? = some o → ∀ c, o.op ≠ .defer c := by
  intro i o ho c hc
  have hm : o ∈ ops.toList := Array.mem_toList_iff.2 (Array.mem_of_getElem? ho)
  have := List.all_eq_true.1 h o hm
  unfold isDefer at this
  rw [hc] at this
  cases this

/-- a region in a round, its loads held -/
theorem region_round (S : World → Prop) (l n : Nat) {id : Nat} {a : Act} {w : World} (hm : P.follows .mixedOrders = true) (hd : ∀ (i : Nat) (o : Oper), ops[i]? = some o → ∀ c, o.op ≠ .defer c) (hno : ¬ LetsOut Q)
    (h : wpAnyH P .any ops Q S ops.size (Array.replicate ops.size false) a w.drew) : (Code.region id ops true).wpIn (Fence.wide.inRound l) n P Q a w :=
  wpIn_region_any hm (wpAny_round l n hd hno _ _ _ _ (wpAny_of_held _ _ _ _ h))
end
end Go.Proofs.YtbakoigejihnaaaGreatDoor.Rg
end
section
set_option linter.unusedSectionVars false
set_option linter.unusedSimpArgs false
set_option linter.unusedVariables false
namespace Go.Proofs.YtbakoigejihnaaaGreatDoor.Wp
open Go.RowKit Go.Proofs.YtbakoigejihnaaaGreatDoorW.PrintWords Go.Proofs.YtbakoigejihnaaaGreatDoorW.PrintLast Go.Proofs.YtbakoigejihnaaaGreatDoorW.PrintMore
open Ref (Lx)
open Rg (pieces range_on onPost Gives split_gives)
attribute [local go_sem] Oper.semAt_some

def WordsPost (w : World) (path : ByteArray) (W : List Lx) (e : Ending) (w' : World) : Prop :=
  ∃ A c, e = .returned (.tuple #[.agg #[.string path, .slice A W.length c], .int .i64 0]) ∧ W.length ≤ c ∧ Kd.C kLx w' A W.length W ∧ Below w.heap.size w w'

set_option maxHeartbeats 4000000 in
theorem splitseq_inner (s : ByteArray) (w : World) : Calls Tryz.prog 44 #[.string s, .string ⟨#[10]⟩, .int .i64 0] w fun e w' =>
    e = .returned (.func (.func 78) #[] #[.pointer (some ⟨w.heap.size + 1, 0, none⟩), .pointer (some ⟨w.heap.size, 0, none⟩), .pointer (some ⟨w.heap.size + 1 + 1, 0, none⟩)]) ∧
    w' = ((w.alloc (.cells #[.string s] 9)).alloc (.cells #[.string ⟨#[10]⟩] 9)).alloc (.cells #[.int .i64 0] 3) := by
  go_enter Tryz.func44, Tryz.ntmps44
  go_wp2_with fail
  go_ret
  exact ⟨rfl, rfl⟩
theorem splitseq_calls (s : ByteArray) (w : World) : Calls Tryz.prog 17 #[.string s, .string ⟨#[10]⟩] w fun e w' =>
    e = .returned (.func (.func 78) #[] #[.pointer (some ⟨w.heap.size + 1, 0, none⟩), .pointer (some ⟨w.heap.size, 0, none⟩), .pointer (some ⟨w.heap.size + 1 + 1, 0, none⟩)]) ∧
    w' = ((w.alloc (.cells #[.string s] 9)).alloc (.cells #[.string ⟨#[10]⟩] 9)).alloc (.cells #[.int .i64 0] 3) := by
  go_enter Tryz.func17, Tryz.ntmps17
  go_wp2_with fail
  (with_reducible refine (splitseq_inner _ _).mono ?_)
  rintro e w' ⟨rfl, rfl⟩
  go_wp2_with fail
  go_ret
  exact ⟨rfl, rfl⟩

theorem heap_alloc_old' (w : World) (o : Obj) {k : Nat} (h : k < w.heap.size) : (w.alloc o).heap[k]? = w.heap[k]? := Below.heap_alloc w o k h
/-- three blocks behind each other -/
theorem three_alloc (w : World) (a b c : Obj) : (((w.alloc a).alloc b).alloc c).heap[w.heap.size]? = some a ∧ (((w.alloc a).alloc b).alloc c).heap[w.heap.size + 1]? = some b ∧ (((w.alloc a).alloc b).alloc c).heap[w.heap.size + 1 + 1]? = some c ∧
    Below w.heap.size w (((w.alloc a).alloc b).alloc c) ∧ (((w.alloc a).alloc b).alloc c).heap.size = w.heap.size + 1 + 1 + 1 := by
  have s1 : (w.alloc a).heap.size = w.heap.size + 1 := by simp
  have s2 : ((w.alloc a).alloc b).heap.size = w.heap.size + 1 + 1 := by simp
  refine ⟨?_, ?_, ?_, (((Below.refl _ _).alloc (Nat.le_refl _) _).alloc (by simp) _).alloc (by simp; omega) _, by simp⟩
  · rw [heap_alloc_old' _ _ (by omega), heap_alloc_old' _ _ (by omega)]; exact World.alloc_heap_new _ _
  · rw [heap_alloc_old' _ _ (by omega), ← s1]; exact World.alloc_heap_new _ _
  · rw [← s2]; exact World.alloc_heap_new _ _

theorem R_keptL {w w1 : World} {base : Nat} {v : Value} {xs : List Lx} {X : Nat → Prop} (h : Kd.R kLx 35 w base AnyB v xs) (hk : Kept w w1 X) (hx : ∀ k, v.ownBlock = some k → ¬ X k) : Kd.R kLx 35 w1 base AnyB v xs :=
  Kd.R_mono (Kd.R_kept (Kd.R_tight rfl h) hk (fun k e_ => hx k e_.symm)) (fun _ _ => trivial)
theorem grownBy_setCells (W : World) (b o : Nat) (v : Value) : W.grownBy (W.setCell ⟨b, o, none⟩ v) (some b) :=
  ⟨rfl, rfl, rfl, by simp [World.setCell], fun i _ hn => Below.heap_setCell W ⟨b, o, none⟩ v i (fun e => hn (by rw [e]))⟩
theorem grown_drewN {A B : World} {row : Option Nat} {n : Nat} (h : (A.drewN n).grownBy B row) : A.grownBy B row := by obtain ⟨a, b, c, d, e⟩ := h; exact ⟨a, b, c, d, e⟩
theorem kept_by {w w1 : World} {row : Option Nat} (hg : w.grownBy w1 row) : Kept w w1 (fun k => row = some k) := ⟨hg.size, fun i hi hn => hg.block i hi (fun e => hn e.symm)⟩

/-- what lies in memory between two lines: six boxes from bs on backwards, and the words so far -/
structure WInv (G : Nat → Prop) (w : World) (bn br bo bs : Nat) (path : ByteArray) (names numbers : Bool) (st : List Lx × Nat × Int) (W : World) : Prop where
  below : Below w.heap.size w W
  low : w.heap.size ≤ bn ∧ bn + 1 < br ∧ br < bo ∧ bo + 3 = bs
  high : bs + 4 < W.heap.size
  n : W.heap[bn]? = some (.cells #[.bool names] 4 (0, 0))
  u : W.heap[bn + 1]? = some (.cells #[.bool numbers] 4 (0, 0))
  r : W.heap[br]? = some (.cells #[.string ⟨#[]⟩, .slice none 0 0] 25 (0, 0))
  a : W.heap[bo + 1]? = some (.cells #[.int .i64 (st.2.1 : Nat)] 3 (0, 0))
  k : W.heap[bo + 1 + 1]? = some (.cells #[.int .i64 st.2.2] 3 (0, 0))
  o : ∃ v, W.heap[bo]? = some (.cells #[.string path, v] 25 (0, 0)) ∧ Kd.R kLx 35 W w.heap.size AnyB v st.1 ∧ ∀ k, v.ownBlock = some k → bs + 5 ≤ k ∧ G k

theorem WInv.grown {G : Nat → Prop} {w A B : World} {bn br bo bs : Nat} {path : ByteArray} {names numbers : Bool} {st : List Lx × Nat × Int} (h : WInv G w bn br bo bs path names numbers st A) {k : Nat} (hg : A.grownBy B (some k)) (h1 : bs ≤ k) (h2 : k < bs + 5) : WInv G w bn br bo bs path names numbers st B := by
  have hlt : ∀ {i o}, A.heap[i]? = some o → i < bs → B.heap[i]? = some o := fun {i o} hi hb => (hg.block i (Array.getElem?_eq_some_iff.1 hi).1 (by intro e; injection e with e; omega)).trans hi
  have hl := h.low
  obtain ⟨v, ho, hR, hv⟩ := h.o
  refine ⟨h.below.grown hg (Nat.le_trans (by omega) (Nat.le_of_lt h.high)) (by rintro q hq; injection hq with hq; omega), hl, Nat.lt_of_lt_of_le h.high hg.size, hlt h.n (by omega), hlt h.u (by omega), hlt h.r (by omega), hlt h.a (by omega), hlt h.k (by omega), v, hlt ho (by omega), R_keptL hR (kept_by hg) (fun q hq e => ?_), hv⟩
  have := (hv q hq).1
  injection e with e
  omega

theorem WInv.after {G : Nat → Prop} {w A B : World} {bn br bo bs : Nat} {path : ByteArray} {names numbers : Bool} {st : List Lx × Nat × Int} (h : WInv G w bn br bo bs path names numbers st A) (hb : Below A.heap.size A B) : WInv G w bn br bo bs path names numbers st B := by
  have hlt : ∀ {i o}, A.heap[i]? = some o → B.heap[i]? = some o := fun {i o} hi => (hb.block i (Array.getElem?_eq_some_iff.1 hi).1).trans hi
  obtain ⟨v, ho, hR, hv⟩ := h.o
  exact ⟨h.below.trans (hb.mono h.below.size), h.low, Nat.lt_of_lt_of_le h.high hb.size, hlt h.n, hlt h.u, hlt h.r, hlt h.a, hlt h.k, v, hlt ho, Kd.R_below hR hb, hv⟩

/-- the five blocks that a round leaves alone -/
def KX (bs : Nat) (W W' : World) : Prop := ∀ k, bs ≤ k → k < bs + 5 → W'.heap[k]? = W.heap[k]?
theorem KX.refl {bs : Nat} (W : World) : KX bs W W := fun _ _ _ => rfl
theorem KX.trans {bs : Nat} {A B C : World} (h : KX bs A B) (k : KX bs B C) : KX bs A C := fun i h1 h2 => (k i h1 h2).trans (h i h1 h2)
theorem KX.below {bs : Nat} {A B : World} (hs : bs + 4 < A.heap.size) (h : Below A.heap.size A B) : KX bs A B := fun i h1 h2 => h.block i (by omega)
theorem KX.grown {bs : Nat} {A B : World} {row : Option Nat} (hs : bs + 4 < A.heap.size) (hg : A.grownBy B row) (hr : ∀ k, row = some k → k < bs ∨ bs + 5 ≤ k) : KX bs A B := fun i h1 h2 => hg.block i (by omega) (fun e => by have := hr i e.symm; omega)

section
variable {G : Nat → Prop} {w A B : World} {bn br bo bs : Nat} {path : ByteArray} {names numbers : Bool} {st : List Lx × Nat × Int}
theorem WInv.weak {G' : Nat → Prop} (h : WInv G w bn br bo bs path names numbers st A) (hG : ∀ k, k < A.heap.size → G k → G' k) : WInv G' w bn br bo bs path names numbers st A := by
  obtain ⟨v, ho, hR, hv⟩ := h.o
  have hR' := hR
  obtain ⟨_, inner, hown, _⟩ := hR'
  exact ⟨h.below, h.low, h.high, h.n, h.u, h.r, h.a, h.k, v, ho, hR, fun k hk => ⟨(hv k hk).1, hG k (own_lt hown k hk) (hv k hk).2⟩⟩
theorem WInv.setK (h : WInv G w bn br bo bs path names numbers st A) (z : Int) : WInv G w bn br bo bs path names numbers (st.1, st.2.1, z) (A.setCell ⟨bo + 1 + 1, 0, none⟩ (.int .i64 z)) := by
  have hg := grownBy_setCell' A (bo + 1 + 1) (.int .i64 z)
  have hlt : ∀ {i o}, A.heap[i]? = some o → i ≠ bo + 1 + 1 → (A.setCell ⟨bo + 1 + 1, 0, none⟩ (.int .i64 z)).heap[i]? = some o := fun {i o} hi hb => (hg.block i (Array.getElem?_eq_some_iff.1 hi).1 (by intro e; injection e with e; exact hb e)).trans hi
  have hl := h.low
  obtain ⟨v, ho, hR, hv⟩ := h.o
  refine ⟨h.below.grown hg (Nat.le_trans (by omega) (Nat.le_of_lt h.high)) (by rintro q hq; injection hq with hq; omega), hl, Nat.lt_of_lt_of_le h.high hg.size, hlt h.n (by omega), hlt h.u (by omega), hlt h.r (by omega), hlt h.a (by omega), ?_, v, hlt ho (by omega), R_keptL hR (kept_by hg) (fun q hq e => ?_), hv⟩
  · exact Boxed.set (W := A) (B := bo + 1 + 1) (t := 3) (v := .int .i64 st.2.2) (.int .i64 z) h.k
  · have := (hv q hq).1
    injection e with e
    omega
theorem WInv.setA (h : WInv G w bn br bo bs path names numbers st A) (z : Nat) : WInv G w bn br bo bs path names numbers (st.1, z, st.2.2) (A.setCell ⟨bo + 1, 0, none⟩ (.int .i64 (z : Nat))) := by
  have hg := grownBy_setCell' A (bo + 1) (.int .i64 (z : Nat))
  have hlt : ∀ {i o}, A.heap[i]? = some o → i ≠ bo + 1 → (A.setCell ⟨bo + 1, 0, none⟩ (.int .i64 (z : Nat))).heap[i]? = some o := fun {i o} hi hb => (hg.block i (Array.getElem?_eq_some_iff.1 hi).1 (by intro e; injection e with e; exact hb e)).trans hi
  have hl := h.low
  obtain ⟨v, ho, hR, hv⟩ := h.o
  refine ⟨h.below.grown hg (Nat.le_trans (by omega) (Nat.le_of_lt h.high)) (by rintro q hq; injection hq with hq; omega), hl, Nat.lt_of_lt_of_le h.high hg.size, hlt h.n (by omega), hlt h.u (by omega), hlt h.r (by omega), ?_, hlt h.k (by omega), v, hlt ho (by omega), R_keptL hR (kept_by hg) (fun q hq e => ?_), hv⟩
  · exact Boxed.set (W := A) (B := bo + 1) (t := 3) (v := .int .i64 (st.2.1 : Nat)) (.int .i64 (z : Nat)) h.a
  · have := (hv q hq).1
    injection e with e
    omega
theorem WInv.cells (h : WInv G w bn br bo bs path names numbers st A) : A.cell? ⟨bn, 0, none⟩ = some (.bool names) ∧ A.cell? ⟨bn + 1, 0, none⟩ = some (.bool numbers) ∧ A.cell? ⟨bo + 1, 0, none⟩ = some (.int .i64 (st.2.1 : Nat)) ∧ A.cell? ⟨bo + 1 + 1, 0, none⟩ = some (.int .i64 st.2.2) ∧
    A.frozen? ⟨bo + 1, 0, none⟩ = false ∧ A.frozen? ⟨bo + 1 + 1, 0, none⟩ = false :=
  ⟨World.news_of_block h.n 0 _ rfl, World.news_of_block h.u 0 _ rfl, World.news_of_block h.a 0 _ rfl, World.news_of_block h.k 0 _ rfl, Boxed.frozen (t := 3) h.a, Boxed.frozen (t := 3) h.k⟩
end

abbrev TLx : TypeId := 35
theorem infoLx : (Tryz.prog.info? TLx).map (fun i => (i.zero, i.size, i.bytes)) = some (some (.agg #[.string ⟨#[]⟩, .int .i64 0]), 2, 24) := by kernel_rfl
/-- one word more -/
theorem lx_append {W : World} {base : Nat} {v : Value} {xs : List Lx} (p : Lx) (h : Kd.R kLx TLx W base AnyB v xs) (hbase : base ≤ W.heap.size) (hl : xs.length ≤ 2000) :
    ∃ B c1 w1, (Builtin.append_ #[23, 23] 23 #[v, .slice (some ⟨W.heap.size, 0, none⟩) 1 1]).run Tryz.prog (W.alloc (.cells #[.string p.f0, .int .i64 p.f1] TLx)) = .ok (.slice B (xs.length + 1) c1) w1 ∧
      Kd.R kLx TLx w1 base AnyB (.slice B (xs.length + 1) c1) (xs ++ [p]) ∧ W.grownBy w1 v.ownBlock ∧ ((Value.slice B (xs.length + 1) c1).ownBlock = v.ownBlock ∨ ∃ b, (Value.slice B (xs.length + 1) c1).ownBlock = some b ∧ W.heap.size ≤ b) := by
  obtain ⟨h0, inner, hown, hr⟩ := h
  obtain ⟨i0, hi, hzz⟩ := Option.map_eq_some_iff.1 infoLx
  simp only [Prod.mk.injEq] at hzz
  obtain ⟨hz0, hz1, hz2⟩ := hzz
  obtain ⟨v1, w1, hrun, hown1, hg, _, hat⟩ := run_append_own_at (P := Tryz.prog) (W.alloc (.cells #[.string p.f0, .int .i64 p.f1] TLx)) base 23 23 TLx i0 (.agg #[.string ⟨#[]⟩, .int .i64 0]) 2 24 Tryz.underlying23 hi hz0 hz1 hz2 rfl (by decide) v xs.length inner (hown.alloc _) ⟨W.heap.size, 0, none⟩ 1 1 [.string p.f0, .int .i64 p.f1] rfl
    (by simpa using World.news_of_block (cs := #[.string p.f0, .int .i64 p.f1]) (t := TLx) (fr := (0, 0)) (heap_alloc_new W (.cells #[.string p.f0, .int .i64 p.f1] TLx))) (by intro u hu; simp at hu; rcases hu with rfl | rfl <;> rfl) (by simp only [maxLen]; omega) (by omega) (by simp; omega)
  have hg' := World.grownBy.trans (World.grownBy_alloc W (.cells #[.string p.f0, .int .i64 p.f1] TLx) v.ownBlock) hg
  have hat' : v1.ownBlock = v.ownBlock ∨ ∃ b, v1.ownBlock = some b ∧ W.heap.size ≤ b := by
    rcases hat with hat | hat
    · exact .inl hat
    · exact .inr ⟨_, hat, by simp⟩
  have hR := Kd.R_appended h0 hr (okp := fun _ => False) (Ref.k35_mkM _ _ _ p) (fun _ hk => hk.elim) (fun _ _ => trivial) hown1 hg' hat'
  obtain ⟨B, c1, rfl, _, _⟩ := Kd.R_reads hR
  rw [List.length_append, List.length_singleton] at hrun hR hat'
  exact ⟨B, c1, w1, hrun, hR, hg', hat'⟩

section
variable {G : Nat → Prop} {w A B : World} {bn br bo bs : Nat} {path : ByteArray} {names numbers : Bool} {st : List Lx × Nat × Int}
theorem KX.set {bs : Nat} {A B : World} (h : KX bs A B) (b o : Nat) (v : Value) (hb : b < bs) : KX bs A (B.setCell ⟨b, o, none⟩ v) := fun k h1 h2 => (Below.heap_setCell B ⟨b, o, none⟩ v k (by show k ≠ b; omega)).trans (h k h1 h2)
/-- one word more in the text that is built -/
theorem WInv.push (h : WInv G w bn br bo bs path names numbers st A) (p : Lx) {v v1 : Value} {w1 : World} (hv : A.heap[bo]? = some (.cells #[.string path, v] 25 (0, 0))) (hvb : ∀ k, v.ownBlock = some k → bs + 5 ≤ k ∧ G k)
    (hR : Kd.R kLx TLx w1 w.heap.size AnyB v1 (st.1 ++ [p])) (hg : A.grownBy w1 v.ownBlock) (hat : v1.ownBlock = v.ownBlock ∨ ∃ b, v1.ownBlock = some b ∧ A.heap.size ≤ b) (hG : ∀ k, A.heap.size ≤ k → G k) :
    WInv G w bn br bo bs path names numbers (st.1 ++ [p], st.2.1, st.2.2) (w1.setCell ⟨bo, 1, none⟩ v1) ∧ KX bs A (w1.setCell ⟨bo, 1, none⟩ v1) ∧ A.heap.size ≤ (w1.setCell ⟨bo, 1, none⟩ v1).heap.size ∧
      ∀ k, k < A.heap.size → k ≠ bo → ¬ G k → (w1.setCell ⟨bo, 1, none⟩ v1).heap[k]? = A.heap[k]? := by
  have hl := h.low
  have hhi := h.high
  have hsz : (w1.setCell ⟨bo, 1, none⟩ v1).heap.size = w1.heap.size := by simp [World.setCell]
  have hnew : ∀ k, v1.ownBlock = some k → bs + 5 ≤ k ∧ G k := by
    intro k hk
    rcases hat with e | ⟨b, e, hb⟩
    · exact hvb k (e ▸ hk)
    · rw [e] at hk; injection hk with hk; exact ⟨by omega, hG k (by omega)⟩
  have hk1 : ∀ k, k < A.heap.size → k ≠ bo → (k < bs + 5 ∨ ¬ G k) → (w1.setCell ⟨bo, 1, none⟩ v1).heap[k]? = A.heap[k]? := by
    intro k h1 h2 h3
    refine (Below.heap_setCell w1 ⟨bo, 1, none⟩ v1 k h2).trans (hg.block k h1 (fun e => ?_))
    have := hvb k e.symm
    rcases h3 with h3 | h3
    · omega
    · exact h3 this.2
  have hlt : ∀ {i o}, A.heap[i]? = some o → i < bs → i ≠ bo → (w1.setCell ⟨bo, 1, none⟩ v1).heap[i]? = some o := fun {i o} hi hb hn => (hk1 i (Array.getElem?_eq_some_iff.1 hi).1 hn (.inl (by omega))).trans hi
  have hb1 : Below w.heap.size w w1 := h.below.grown hg h.below.size (fun q hq => by have := (hvb q hq).1; omega)
  refine ⟨⟨hb1.grown (grownBy_setCells w1 bo 1 v1) hb1.size (by rintro q hq; injection hq with hq; omega), hl, by rw [hsz]; exact Nat.lt_of_lt_of_le hhi hg.size, hlt h.n (by omega) (by omega), hlt h.u (by omega) (by omega), hlt h.r (by omega) (by omega), hlt h.a (by omega) (by omega), hlt h.k (by omega) (by omega), v1, ?_, ?_, hnew⟩, ?_, ?_, ?_⟩
  · have : w1.heap[bo]? = some (.cells #[.string path, v] 25 (0, 0)) := (hg.block bo (blk_lt hv) (fun e => by have := (hvb bo e.symm).1; omega)).trans hv
    exact blk_set this 1 v1
  · refine R_keptL hR (kept_by (grownBy_setCells w1 bo 1 v1)) (fun q hq e => ?_)
    have := (hnew q hq).1
    injection e with e
    omega
  · exact fun k h1 h2 => hk1 k (by omega) (by omega) (.inl (by omega))
  · rw [hsz]; exact hg.size
  · exact fun k h1 h2 h3 => hk1 k h1 h2 (.inr h3)
end

/-- the words of a line, in memory -/
theorem R_str {W2 : World} {base : Nat} {v : Value} {xs : List ByteArray} (h : Kd.R Kd.string 9 W2 base AnyB v xs) : ∃ A c, v = .slice A xs.length c ∧ xs.length ≤ c ∧ Kd.C Kd.string W2 A xs.length xs ∧
    ∀ j (hj : j < xs.length), ∃ ad, A = some ad ∧ base ≤ ad.block ∧ ad.block < W2.heap.size ∧ W2.cell? (ad.add j) = some (.string xs[j]) := by
  obtain ⟨A, c, h1, hle, h2⟩ := Kd.R_reads h
  obtain ⟨_, inner, hown, _⟩ := h
  have hC := h2
  refine ⟨A, c, h1, hle, hC, fun j hj => ?_⟩
  obtain ⟨ad, rfl, hc⟩ := at_str hC hj
  have hb : v.ownBlock = some ad.block := by rw [h1]; rfl
  exact ⟨ad, rfl, own_base hown _ hb, own_lt hown _ hb, hc⟩

/-- what a round leaves -/
def RoundPost (bs : Nat) (W : World) (I : World → Prop) : Exit → Act → World → Prop
  | .normal, _, W' => KX bs W W' ∧ I W'
  | .ret, _, _ => False
  | .exit _, _, _ => False
  | .goto _, _, _ => False
  | .panic _, _, _ => False
  | .outgrown, _, _ => False

/-- append's run under a name of its own: the walk does not open it -/
def appSem (ats : Array TypeId) (ty : TypeId) (args : Array Value) : Sem Value := Builtin.append_ ats ty args
@[local go_sem ↓] theorem appSem_at (ats : Array TypeId) (ty : TypeId) (args : Array Value) : Builtin.append_ ats ty args = appSem ats ty args := rfl

set_option maxHeartbeats 8000000 in
set_option maxRecDepth 100000 in
theorem words_calls (path data : ByteArray) (names numbers : Bool) (hp : pathOk path = true) (hpath : path.size ≤ 1000000) (hd : data.size ≤ 1000) (w : World) (hL : LibAt w) :
    Calls Tryz.prog 5 #[.string path, .string data, .bool names, .bool numbers] w (WordsPost w path (wordsOf names numbers data)) := by
  have HL := Aside0.mk hL
  have HP : Aside0 (∀ (n : Nat) (W : World), MaxAt W → CallsIn Fence.wide n Tryz.prog 15 #[.string path] W fun e w' => e = .returned (.int .i64 0) ∧ Below W.heap.size W w') := ⟨fun n W hM => by
    have := path_calls path hpath W hM
    rw [if_pos hp] at this
    exact callsIn_wide.2 this⟩
  have HCt := Aside0.mk (fun (n : Nat) (W : World) => (callsIn_wide (n := n)).2 (Tryz.strings_Count_one data 10 W))
  have b1 : decide ((65536 : Int) < (data.size : Int)) = false := by simp; omega
  have hcb : decide ((1024 : Int) ≤ ((Lib.countByte data.data.toList 10 : Nat) : Int)) = false := by
    have : Lib.countByte data.data.toList 10 ≤ data.data.toList.length := List.count_le_length
    rw [show data.data.toList.length = data.size by simp] at this
    simp; omega
  clear hL hp
  generalize Lib.countByte data.data.toList 10 = cn at HCt hcb
  refine (callsIn_wide (n := 10)).1 ?_
  refine callsIn_of_wp_marks Tryz.func5 rfl trivial ?_ rfl
  simp only [Tryz.ntmps5, List.size_toArray, List.length_cons, List.length_nil, Nat.reduceAdd, Nat.reduceSub, Array.replicate_succ, Array.replicate_zero, List.push_toArray, List.append_toArray, List.nil_append, List.cons_append]
  gi_wp2
  refine ⟨trivial, ?_⟩
  obtain ⟨W1, hW1⟩ : ∃ W1, W1 = (((w.alloc (.cells #[.bool names] 4)).alloc (.cells #[.bool numbers] 4)).alloc (.cells #[.string ⟨#[]⟩, .slice none 0 0] 25)) := ⟨_, rfl⟩
  rw [← hW1]
  have h3 := three_alloc w (.cells #[.bool names] 4) (.cells #[.bool numbers] 4) (.cells #[.string ⟨#[]⟩, .slice none 0 0] 25)
  rw [← hW1] at h3
  have H1 := Aside0.mk h3
  clear hW1 h3
  refine (HP.out _ _ (HL.out.of H1.out.2.2.2.1).max).mono ?_
  rintro e W2 ⟨rfl, hb2⟩
  have HB2 := Aside0.mk hb2
  clear hb2
  gi_wp2_with (refine ⟨trivial, ?_⟩; gi_at_call 16; refine (HCt.out _ _).mono ?_; rintro e w9 ⟨rfl, rfl⟩)
  obtain ⟨W3, hW3⟩ : ∃ W3, W3 = (((w9.alloc (.cells #[.string path, .slice none 0 0] 25)).alloc (.cells #[.int .i64 0] 3)).alloc (.cells #[.int .i64 0] 3)) := ⟨_, rfl⟩
  rw [← hW3]
  have h3 := three_alloc w9 (.cells #[.string path, .slice none 0 0] 25) (.cells #[.int .i64 0] 3) (.cells #[.int .i64 0] 3)
  rw [← hW3] at h3
  have H3 := Aside0.mk h3
  clear hW3 h3
  refine ⟨trivial, ?_⟩
  refine (callsIn_wide.2 (splitseq_calls data W3)).mono ?_
  rintro e w' ⟨rfl, rfl⟩
  obtain ⟨W4, hW4⟩ : ∃ W4, W4 = (((W3.alloc (.cells #[.string data] 9)).alloc (.cells #[.string ⟨#[10]⟩] 9)).alloc (.cells #[.int .i64 0] 3)) := ⟨_, rfl⟩
  rw [← hW4]
  have h4 := three_alloc W3 (.cells #[.string data] 9) (.cells #[.string ⟨#[10]⟩] 9) (.cells #[.int .i64 0] 3)
  rw [← hW4] at h4
  have H4 := Aside0.mk h4
  clear hW4 h4
  gi_wp2
  obtain ⟨bs, hbs⟩ : ∃ b, b = W3.heap.size := ⟨_, rfl⟩
  obtain ⟨bo, hbo⟩ : ∃ b, b = w9.heap.size := ⟨_, rfl⟩
  obtain ⟨bn, hbn⟩ : ∃ b, b = w.heap.size := ⟨_, rfl⟩
  obtain ⟨br, hbr⟩ : ∃ b, b = bn + 1 + 1 := ⟨_, rfl⟩
  have hI0 : ∀ W, Below W4.heap.size W4 W → bs + 4 < W.heap.size → WInv AnyB w bn br bo bs path names numbers ([], 0, 0) W := by
    intro W hW hsz
    have q1 := H1.out
    have q3 := H3.out
    have q4 := H4.out
    have b2 := HB2.out
    have k13 : ∀ {i o}, W1.heap[i]? = some o → W.heap[i]? = some o := fun {i o} hi => by
      have e1 := (b2.block i (Array.getElem?_eq_some_iff.1 hi).1).trans hi
      have e2 := (q3.2.2.2.1.block i (Array.getElem?_eq_some_iff.1 e1).1).trans e1
      have e3 := (q4.2.2.2.1.block i (Array.getElem?_eq_some_iff.1 e2).1).trans e2
      exact (hW.block i (Array.getElem?_eq_some_iff.1 e3).1).trans e3
    have k3 : ∀ {i o}, W3.heap[i]? = some o → W.heap[i]? = some o := fun {i o} hi => by
      have e3 := (q4.2.2.2.1.block i (Array.getElem?_eq_some_iff.1 hi).1).trans hi
      exact (hW.block i (Array.getElem?_eq_some_iff.1 e3).1).trans e3
    have s1 := q1.2.2.2.2
    have s2 := b2.size
    have s3 := q3.2.2.2.2
    have s4 := q4.2.2.2.2
    have hbW : Below w.heap.size w W := (((q1.2.2.2.1.trans (b2.mono (by omega))).trans (q3.2.2.2.1.mono (by omega))).trans (q4.2.2.2.1.mono (by omega))).trans (hW.mono (by omega))
    subst hbr hbn hbo hbs
    exact ⟨hbW, by omega, hsz, k13 q1.1, k13 q1.2.1, k13 q1.2.2.1, k3 q3.2.1, k3 q3.2.2.1, .slice none 0 0, k3 q3.1, Kd.R_nil _ _ _ _ _, fun k hk => by cases hk⟩
  have hsz4 : W4.heap.size = bs + 3 := by rw [hbs]; exact H4.out.2.2.2.2
  have hBx : W4.heap[bs]? = some (.cells #[.string data] 9 (0, 0)) ∧ W4.heap[bs + 1]? = some (.cells #[.string ⟨#[10]⟩] 9 (0, 0)) ∧ W4.heap[bs + 1 + 1]? = some (.cells #[.int .i64 0] 3 (0, 0)) := by
    rw [hbs]; exact ⟨H4.out.1, H4.out.2.1, H4.out.2.2.1⟩
  have HI0 := Aside0.mk hI0
  have HS4 := Aside0.mk hsz4
  have HBx := Aside0.mk hBx
  rw [← hbs, ← hbo, ← hbn, ← hbr]
  clear hI0 hsz4 hBx hbs hbo hbn hbr H1 H3 H4 HB2 HP HCt
  have hmx : Tryz.prog.follows .mixedOrders = true := by kernel_rfl
  refine range_on (w := W4) rfl (by omega) (gf := 78) (lb := #[.pointer (some ⟨bs + 1, 0, none⟩), .pointer (some ⟨bs, 0, none⟩), .pointer (some ⟨bs + 1 + 1, 0, none⟩)]) rfl trivial (enters_of Tryz.func78 (by kernel_rfl) rfl) (encs := fun x : ByteArray => #[.string x]) (fun _ => rfl)
    bs (fun k => k = bs + 1 ∨ k = bs ∨ k = bs + 1 + 1) (by rw [HS4.out]; omega) (by rw [HS4.out]; rintro k (h | h | h) <;> omega) (pieces data.size data)
    (fun W => Boxed W (bs + 1) 9 (.string ⟨#[10]⟩) ∧ Boxed W bs 9 (.string data) ∧ Boxed W (bs + 1 + 1) 3 (.int .i64 0)) (split_gives 9 (by omega) (bs + 1) bs (bs + 1 + 1) data (by omega) (by omega) (by omega))
    (fun pre W => WInv AnyB w bn br bo bs path names numbers (linesOf names numbers pre) W)
    (fun pre A B hA hg => hA.grown hg (Nat.le_refl _) (by omega))
    (fun pre A k o h1 h2 hA => hA.grown (grownBy_putObj' A k o) (by rw [HS4.out] at h1; omega) (by rw [HS4.out] at h2; omega))
    ?start (fun x => { tmps := #[.string path, .string data, .bool names, .bool numbers, undef, undef, .pointer (some ⟨bn, 0, none⟩), .pointer (some ⟨bn + 1, 0, none⟩), .pointer (some ⟨br, 0, none⟩), .int .i64 0, .pointer (some ⟨bo, 0, none⟩), .pointer (some ⟨bo + 1, 0, none⟩), .pointer (some ⟨bo + 1 + 1, 0, none⟩), .string x, undef, undef, undef, undef, .bool false, .string path, .int .i64 0, .bool false, undef, .bool false, .string data, .int .i64 (data.size : Nat), .bool false, .bool false, .string data, .int .i64 (cn : Nat), .bool false, .bool false, undef, .string path, .agg #[.string path, .slice none 0 0], .string data, .func (.func 78) #[] #[.pointer (some ⟨bs + 1, 0, none⟩), .pointer (some ⟨bs, 0, none⟩), .pointer (some ⟨bs + 1 + 1, 0, none⟩)], .string x, undef, undef, undef, undef, undef, undef, undef, undef, undef, undef, undef, undef, undef, undef, undef, undef, undef, undef, undef, undef, undef, undef, undef, undef, undef, undef, undef, undef, undef, undef, undef, undef, undef, undef, undef, undef, undef, undef, undef], defers := [] }) ?assign ?body ?done
  case start =>
    intro o1 o2
    have hb : Below W4.heap.size W4 ((W4.alloc o1).alloc o2) := ((Below.refl _ _).alloc (Nat.le_refl _) _).alloc (by simp) _
    have hs : ((W4.alloc o1).alloc o2).heap.size = bs + 3 + 1 + 1 := by simp [HS4.out]
    refine ⟨HI0.out _ hb (by rw [hs]; omega), ?_, ?_, ?_⟩
    · exact (hb.block _ (by rw [HS4.out]; omega)).trans HBx.out.2.1
    · exact (hb.block _ (by rw [HS4.out]; omega)).trans HBx.out.1
    · exact (hb.block _ (by rw [HS4.out]; omega)).trans HBx.out.2.2
  case assign =>
    intro x W K hK
    gi_wp2
    exact hK
  case body =>
    rw [HS4.out]
    rintro pre x rest W hxs hi hlt
    have hLW : LibAt W := HL.out.of hi.below
    have hxm := piece_le (show x ∈ pieces data.size data by rw [hxs]; simp)
    have hx : x.size ≤ 1000000 := by omega
    have HLW := Aside0.mk hLW
    have HI := Aside0.mk hi
    have hlo := lok_all (B := data.size) names numbers pre.length pre rfl (fun y hy => piece_le (by rw [hxs]; exact List.mem_append_left _ hy))
    have hsm := pieces_sum data.size data (Nat.le_refl _)
    have hsp := sum_part hxs
    have hpl : pre.length + 1 ≤ (pieces data.size data).length := by rw [hxs]; simp
    have hlen : (linesOf names numbers pre).1.length + x.size ≤ 1000 ∧ (linesOf names numbers pre).2.1 ≤ 1000 ∧ 0 ≤ (linesOf names numbers pre).2.2 ∧ (linesOf names numbers pre).2.2 < 1000000000000000000 := by
      have a1 := hlo.at_
      have a2 := hlo.skip
      have a3 := hlo.len
      omega
    have HLo := Aside0.mk hlen
    clear hlo hsm hsp hpl hlen
    have HSp := Aside0.mk (fun (n : Nat) => CallsIn.inRound (bs + 3 + 1) ((callsIn_wide (n := n)).2 (split_calls x hx W)))
    have HSn : Aside0 (linesOf names numbers (pre ++ [x]) = lineStep names numbers (linesOf names numbers pre) x) := ⟨linesOf_snoc _ _ _ _⟩
    clear hi hLW hxs
    refine wpIn_mono (Q := RoundPost bs W (WInv AnyB w bn br bo bs path names numbers (linesOf names numbers (pre ++ [x])))) ?_ (fun e a' W' h => by
      cases e with
      | normal => exact ⟨fun k hk => h.1 k (by rcases hk with (hk | hk | hk) | hk | hk <;> omega) (by rcases hk with (hk | hk | hk) | hk | hk <;> omega), h.2⟩
      | _ => exact h)
    generalize linesOf names numbers pre = st at HI HSn HLo
    rw [HSn.out]
    clear HSn HBx HI0
    obtain ⟨out, at_, skip⟩ := st
    have hE : lineStep names numbers (out, at_, skip) x = if 0 < skip then (out, at_ + 1, skip - 1) else if 0 ≤ noteV (splitS x.size x) then (out, at_ + 1, noteV (splitS x.size x)) else (out ++ (splitS x.size x).map (fun y => ⟨classW names numbers y, (at_ : Nat)⟩), at_ + 1, skip) := rfl
    generalize lineStep names numbers (out, at_, skip) x = st' at hE ⊢
    have hws := splitS_words x.size x
    generalize splitS x.size x = ws at HSp hws hE
    have HWs := Aside0.mk hws
    have HE0 := Aside0.mk hE
    clear hws hE
    gi_wp2
    refine ⟨trivial, ?_⟩
    refine (HSp.out _).mono ?_
    rintro e W2 ⟨v1, rfl, hR1, hb2⟩
    obtain ⟨A, c, rfl, hc1, hC1, hA1⟩ := R_str hR1
    have hLW2 : LibAt W2 := HLW.out.of hb2
    have HN := Aside0.mk (fun (n : Nat) => CallsIn.inRound (bs + 3 + 1) ((callsIn_wide (n := n)).2 (note_calls ws A c W2 hLW2 hC1 (by have := HWs.out.2; omega) (fun y hy => by have := (HWs.out.1 y hy).2.1; omega))))
    have HI2 := Aside0.mk (HI.out.after hb2)
    have HI2g := Aside0.mk ((HI.out.weak (G' := fun k => k < W.heap.size) (fun _ h _ => h)).after hb2)
    have HA2 := Aside0.mk hA1
    have HK2 : Aside0 (KX bs W W2) := ⟨KX.below HI.out.high hb2⟩
    have HZ2 := Aside0.mk hb2.size
    clear hR1 hb2 hc1 hC1 hA1 hLW2 HSp
    have hnb := noteV_bound ws
    generalize noteV ws = nn at HN hnb HE0
    have HE := HE0
    clear HE0
    have HNb := Aside0.mk hnb
    clear hnb
    gi_wp2
    refine ⟨trivial, ?_⟩
    refine (HN.out _).mono ?_
    rintro e W3 ⟨rfl, hb3⟩
    have HI3 := Aside0.mk (HI2.out.after hb3)
    have HI3g : Aside0 (WInv (fun k => k < W.heap.size ∨ W3.heap.size ≤ k) w bn br bo bs path names numbers (out, at_, skip) W3) := ⟨(HI2g.out.weak (fun _ _ h => .inl h)).after hb3⟩
    clear HI2g
    have HA3 : Aside0 (∀ j (hj : j < ws.length), ∃ ad, A = some ad ∧ W.heap.size ≤ ad.block ∧ ad.block < W3.heap.size ∧ W3.cell? (ad.add j) = some (.string ws[j])) := ⟨fun j hj => by
      obtain ⟨ad, e, h1, h2, h3⟩ := HA2.out j hj
      exact ⟨ad, e, h1, Nat.lt_of_lt_of_le h2 hb3.size, (hb3.cell (by
        show (ad.add j).block < _
        have : (ad.add j).block = ad.block := by simp [Addr.add]; split <;> rfl
        omega)).trans h3⟩⟩
    have HK3 : Aside0 (KX bs W W3) := ⟨HK2.out.trans (KX.below HI2.out.high hb3)⟩
    have HZ3 : Aside0 (W.heap.size ≤ W3.heap.size) := ⟨Nat.le_trans HZ2.out hb3.size⟩
    clear HI2 HA2 HK2 HZ2 HN hb3
    obtain ⟨cn1, cn2, cn3, cn4, fr1, fr2⟩ := HI3.out.cells
    have hsk := HLo.out.2.2
    obtain ⟨hs0, hs1⟩ := hsk
    by_cases hk : 0 < skip
    · have bk : decide (0 < skip) = true := decide_eq_true hk
      have HE' : Aside0 (st' = (out, at_ + 1, skip - 1)) := ⟨by rw [HE.out, if_pos hk]⟩
      have hw64 : wrap64 ((at_ : Int) + 1) = ((at_ + 1 : Nat) : Int) := by rw [IntWalk.wrap64_in _ (by have := HLo.out.2.1; omega)]; omega
      gi_wp2
      have hlow := HI3.out.low
      refine ⟨(HK3.out.set (bo + 1 + 1) 0 _ (by omega)).set (bo + 1) 0 _ (by omega), ?_⟩
      rw [HE'.out]
      exact (HI3.out.setK _).setA _
    · have bk : decide (0 < skip) = false := decide_eq_false hk
      by_cases hn : 0 ≤ nn
      · have bn2 : decide (0 ≤ nn) = true := decide_eq_true hn
        have HE' : Aside0 (st' = (out, at_ + 1, nn)) := ⟨by rw [HE.out, if_neg hk, if_pos hn]⟩
        have hw64 : wrap64 ((at_ : Int) + 1) = ((at_ + 1 : Nat) : Int) := by rw [IntWalk.wrap64_in _ (by have := HLo.out.2.1; omega)]; omega
        gi_wp2
        have hlow := HI3.out.low
        refine ⟨(HK3.out.set (bo + 1 + 1) 0 _ (by omega)).set (bo + 1) 0 _ (by omega), ?_⟩
        rw [HE'.out]
        exact (HI3.out.setK _).setA _
      · have bn2 : decide (0 ≤ nn) = false := decide_eq_false hn
        have HE' : Aside0 (st' = (out ++ ws.map (fun y => ⟨classW names numbers y, (at_ : Nat)⟩), at_ + 1, skip)) := ⟨by rw [HE.out, if_neg hk, if_neg hn]⟩
        clear HE
        gi_wp2
        have HAt := HLo.out.2.1
        have hw64 : wrap64 ((at_ : Int) + 1) = ((at_ + 1 : Nat) : Int) := by rw [IntWalk.wrap64_in _ (by omega)]; omega
        have HW64 := Aside0.mk hw64
        clear hw64
        have HIg : Aside0 (WInv (fun k => k < W.heap.size ∨ W3.heap.size ≤ k) w bn br bo bs path names numbers (out, at_, skip) W3) := HI3g
        clear HI3 cn1 cn2 cn3 cn4 fr1 fr2
        gi_loopg [44] ws.length (fun k v44 wr => ∃ j : Nat, v44 = .int .i64 j ∧ Aside0 (j + k = ws.length) ∧ Aside0 (WInv (fun k => k < W.heap.size ∨ W3.heap.size ≤ k) w bn br bo bs path names numbers (out ++ (ws.take j).map (fun y => (⟨classW names numbers y, (at_ : Nat)⟩ : Lx)), at_, skip) wr) ∧ Aside0 (KX bs W wr) ∧ Aside0 (W3.heap.size ≤ wr.heap.size) ∧
            Aside0 (∀ k, W.heap.size ≤ k → k < W3.heap.size → wr.heap[k]? = W3.heap[k]?))
        case atStart => exact ⟨0, rfl, ⟨by omega⟩, ⟨by simpa using HIg.out⟩, HK3, ⟨Nat.le_refl _⟩, ⟨fun _ _ _ => rfl⟩⟩
        case round =>
          obtain ⟨j, rfl, HJ, HI, HK, HZ, HS⟩ := hrel
          by_cases hj : j < ws.length
          · have bj : decide (j < ws.length) = true := decide_eq_true hj
            obtain ⟨ad, rfl, ha1, ha2, ha3⟩ := HA3.out j hj
            have hc3 : wr.cell? (ad.add j) = some (.string ws[j]) := by
              have he : (ad.add j).block = ad.block := by simp [Addr.add]; split <;> rfl
              have := HS.out _ ha1 ha2
              rw [← ha3]
              unfold World.cell?
              rw [he, this]
            have HWj := HWs.out.1 ws[j] (List.getElem_mem hj)
            have HCl := Aside0.mk (fun (W : World) => class_calls ws[j] names numbers HWj.1 W)
            have hnx : out ++ (ws.take (j + 1)).map (fun y => (⟨classW names numbers y, (at_ : Nat)⟩ : Lx)) = (out ++ (ws.take j).map (fun y => (⟨classW names numbers y, (at_ : Nat)⟩ : Lx))) ++ [⟨classW names numbers ws[j], (at_ : Nat)⟩] := by
              rw [List.take_succ_eq_append_getElem hj, List.map_append, ← List.append_assoc]; rfl
            have hol : (out ++ (ws.take j).map (fun y => (⟨classW names numbers y, (at_ : Nat)⟩ : Lx))).length ≤ 2000 := by
              have := HLo.out.1
              have := HWs.out.2
              simp; omega
            have HNx := Aside0.mk hnx
            clear hnx
            generalize out ++ (ws.take j).map (fun y => (⟨classW names numbers y, (at_ : Nat)⟩ : Lx)) = cur at HI HNx hol
            generalize classW names numbers ws[j] = cl at HCl HNx
            generalize ws[j] = wj at hc3 HCl HWj
            obtain ⟨v, ho, hR, hvb⟩ := HI.out.o
            obtain ⟨cn1, cn2, cn3, cn4, fr1, fr2⟩ := HI.out.cells
            have cn5 : wr.cell? ⟨bo, 1, none⟩ = some v := blk_cell ho 1
            have hbase : w.heap.size ≤ wr.heap.size := HI.out.below.size
            have hrun := fun (n : Nat) => lx_append (W := wr.drewN n) ⟨cl, (at_ : Nat)⟩ (Kd.R_drewN hR n) hbase hol
            obtain ⟨B1, hrun⟩ := Classical.skolem.1 hrun
            obtain ⟨c1, hrun⟩ := Classical.skolem.1 hrun
            obtain ⟨w1, hrun⟩ := Classical.skolem.1 hrun
            have hrn : ∀ n, (appSem #[23, 23] 23 #[v, .slice (some ⟨wr.heap.size, 0, none⟩) 1 1]).run Tryz.prog ((wr.drewN n).alloc (.cells #[.string cl, .int .i64 (at_ : Nat)] TLx)) = .ok (.slice (B1 n) (cur.length + 1) (c1 n)) (w1 n) := fun n => (hrun n).1
            have hcf : ∀ n, (w1 n).frozen? ⟨bo, 1, none⟩ = false := fun n => by
              have h1 : (w1 n).heap[bo]? = some (.cells #[.string path, v] 25 (0, 0)) := ((hrun n).2.2.1.block bo (blk_lt ho) (fun e => by have := (hvb bo e.symm).1; have := HI.out.low; omega)).trans ho
              exact blk_frozen h1 1
            have hcc : ∀ n, (w1 n).cell? ⟨bo, 1, none⟩ = some v := fun n => by
              have h1 : (w1 n).heap[bo]? = some (.cells #[.string path, v] 25 (0, 0)) := ((hrun n).2.2.1.block bo (blk_lt ho) (fun e => by have := (hvb bo e.symm).1; have := HI.out.low; omega)).trans ho
              exact blk_cell h1 1
            have hca : ∀ n, ((wr.drewN n).alloc (.cells #[.string cl, .int .i64 (at_ : Nat)] TLx)).cell? ⟨bo, 1, none⟩ = some v := fun n => by
              have h1 : ((wr.drewN n).alloc (.cells #[.string cl, .int .i64 (at_ : Nat)] TLx)).heap[bo]? = some (.cells #[.string path, v] 25 (0, 0)) := (heap_alloc_old' (wr.drewN n) _ (blk_lt ho)).trans ho
              exact blk_cell h1 1
            have HNew : Aside0 (∀ n, WInv (fun k => k < W.heap.size ∨ W3.heap.size ≤ k) w bn br bo bs path names numbers (out ++ (ws.take (j + 1)).map (fun y => (⟨classW names numbers y, (at_ : Nat)⟩ : Lx)), at_, skip) ((w1 n).setCell ⟨bo, 1, none⟩ (.slice (B1 n) (cur.length + 1) (c1 n))) ∧
                KX bs W ((w1 n).setCell ⟨bo, 1, none⟩ (.slice (B1 n) (cur.length + 1) (c1 n))) ∧ W3.heap.size ≤ ((w1 n).setCell ⟨bo, 1, none⟩ (.slice (B1 n) (cur.length + 1) (c1 n))).heap.size ∧
                ∀ k, W.heap.size ≤ k → k < W3.heap.size → ((w1 n).setCell ⟨bo, 1, none⟩ (.slice (B1 n) (cur.length + 1) (c1 n))).heap[k]? = W3.heap[k]?) := ⟨fun n => by
              have hz := HZ.out
              obtain ⟨p1, p2, p3, p4⟩ := HI.out.push ⟨cl, (at_ : Nat)⟩ ho hvb (hrun n).2.1 (grown_drewN (hrun n).2.2.1) (hrun n).2.2.2 (fun k hk => .inr (Nat.le_trans hz hk))
              refine ⟨by rw [HNx.out]; exact p1, HK.out.trans p2, Nat.le_trans hz p3, fun k h1 h2 => (p4 k (by omega) (fun e => ?_) (fun g => ?_)).trans (HS.out k h1 h2)⟩
              · have := HI.out.low; omega
              · rcases g with g | g <;> omega⟩
            have HSa : Aside0 (∀ n, ((wr.drewN n).alloc (.cells #[.string cl, .int .i64 (at_ : Nat)] TLx)).cell? ⟨bn, 0, none⟩ = some (.bool names) ∧ ((wr.drewN n).alloc (.cells #[.string cl, .int .i64 (at_ : Nat)] TLx)).cell? ⟨bn + 1, 0, none⟩ = some (.bool numbers) ∧ ((wr.drewN n).alloc (.cells #[.string cl, .int .i64 (at_ : Nat)] TLx)).cell? ⟨bo + 1, 0, none⟩ = some (.int .i64 (at_ : Nat))) := ⟨fun n => by
              have old := fun {i : Nat} {o : Obj} (h : wr.heap[i]? = some o) => (heap_alloc_old' (wr.drewN n) (.cells #[.string cl, .int .i64 (at_ : Nat)] TLx) (blk_lt h)).trans h
              exact ⟨blk_cell (old HI.out.n) 0, blk_cell (old HI.out.u) 0, blk_cell (old HI.out.a) 0⟩⟩
            have HSw : Aside0 (∀ n, (w1 n).cell? ⟨bn, 0, none⟩ = some (.bool names) ∧ (w1 n).cell? ⟨bn + 1, 0, none⟩ = some (.bool numbers) ∧ (w1 n).cell? ⟨bo + 1, 0, none⟩ = some (.int .i64 (at_ : Nat))) := ⟨fun n => by
              have hl := HI.out.low
              have old := fun {i : Nat} {o : Obj} (h : wr.heap[i]? = some o) (hi : i < bs) => ((hrun n).2.2.1.block i (blk_lt h) (fun e => by have := (hvb i e.symm).1; omega)).trans h
              exact ⟨blk_cell (old HI.out.n (by omega)) 0, blk_cell (old HI.out.u (by omega)) 0, blk_cell (old HI.out.a (by omega)) 0⟩⟩
            have HSn : Aside0 (∀ n, ((w1 n).setCell ⟨bo, 1, none⟩ (.slice (B1 n) (cur.length + 1) (c1 n))).cell? ⟨bn, 0, none⟩ = some (.bool names) ∧ ((w1 n).setCell ⟨bo, 1, none⟩ (.slice (B1 n) (cur.length + 1) (c1 n))).cell? ⟨bn + 1, 0, none⟩ = some (.bool numbers) ∧ ((w1 n).setCell ⟨bo, 1, none⟩ (.slice (B1 n) (cur.length + 1) (c1 n))).cell? ⟨bo + 1, 0, none⟩ = some (.int .i64 (at_ : Nat))) := ⟨fun n => by
              have hcs := (HNew.out n).1.cells
              exact ⟨hcs.1, hcs.2.1, hcs.2.2.1⟩⟩
            have HHj := Aside0.mk hj
            clear hrun ho hR hvb hbase hol ha1 ha2 ha3 HWj HNx
            have hjm : Aside0 (wrap64 ((j : Int) + 1) = ((j + 1 : Nat) : Int)) := ⟨by
              have := HHj.out
              have := HLo.out.1
              have := HWs.out.2
              rw [IntWalk.wrap64_in _ (by omega)]; omega⟩
            gi_wp2
            refine Rg.region_round (fun w' => w'.cell? ⟨bn, 0, none⟩ = some (.bool names) ∧ w'.cell? ⟨bn + 1, 0, none⟩ = some (.bool numbers) ∧ w'.cell? ⟨bo + 1, 0, none⟩ = some (.int .i64 (at_ : Nat))) _ _ hmx (Rg.noDefer_spec (by rfl)) (fun ⟨_, _, h⟩ => h) ?_
            change wpAnyH _ _ _ _ _ 12 _ _ _
            have hHeld : wr.drew.cell? ⟨bn, 0, none⟩ = some (.bool names) ∧ wr.drew.cell? ⟨bn + 1, 0, none⟩ = some (.bool numbers) ∧ wr.drew.cell? ⟨bo + 1, 0, none⟩ = some (.int .i64 (at_ : Nat)) := ⟨cn1, cn2, cn3⟩
            refine wpAnyH_take (i := 0) (v := (.pointer (some ⟨bo, 1, none⟩))) rfl (by kernel_rfl) (by kernel_rfl) (by kernel_rfl) (fun _ _ _ h => h) (Or.inl ⟨by rfl, ?_⟩) hHeld ?_
            · intro w hSw; obtain ⟨s1, s2, s3⟩ := hSw; go_simp
            simp only [Act.put, List.setIfInBounds_toArray, List.set_cons_zero, List.set_cons_succ]
            refine wpAnyH_take (i := 2) (v := (.string wj)) rfl (by kernel_rfl) (by kernel_rfl) (by kernel_rfl) (fun _ _ _ h => h) (Or.inl ⟨by rfl, ?_⟩) hHeld ?_
            · intro w hSw; obtain ⟨s1, s2, s3⟩ := hSw; go_simp
            simp only [Act.put, List.setIfInBounds_toArray, List.set_cons_zero, List.set_cons_succ]
            refine wpAnyH_take (i := 3) (v := (.bool names)) rfl (by kernel_rfl) (by kernel_rfl) (by kernel_rfl) (fun _ _ _ h => h) (Or.inl ⟨by rfl, ?_⟩) hHeld ?_
            · intro w hSw; obtain ⟨s1, s2, s3⟩ := hSw; go_simp
            simp only [Act.put, List.setIfInBounds_toArray, List.set_cons_zero, List.set_cons_succ]
            refine wpAnyH_take (i := 4) (v := (.bool numbers)) rfl (by kernel_rfl) (by kernel_rfl) (by kernel_rfl) (fun _ _ _ h => h) (Or.inl ⟨by rfl, ?_⟩) hHeld ?_
            · intro w hSw; obtain ⟨s1, s2, s3⟩ := hSw; go_simp
            simp only [Act.put, List.setIfInBounds_toArray, List.set_cons_zero, List.set_cons_succ]
            refine wpAnyH_take (i := 6) (v := (.int .i64 (at_ : Nat))) rfl (by kernel_rfl) (by kernel_rfl) (by kernel_rfl) (fun _ _ _ h => h) (Or.inl ⟨by rfl, ?_⟩) hHeld ?_
            · intro w hSw; obtain ⟨s1, s2, s3⟩ := hSw; go_simp
            simp only [Act.put, List.setIfInBounds_toArray, List.set_cons_zero, List.set_cons_succ]
            refine wpAnyH_ready (rs := [1, 5]) (by kernel_rfl) (by simp) ?_
            refine AllReadyH.cons rfl (fun K hK => ?_) ?_
            · go_simp
              refine hK.out _ _ (hHeld) (fun hHeld => ?_)
              clear hK K
              refine wpAnyH_ready (rs := [5]) (by kernel_rfl) (by simp) ?_
              refine AllReadyH.cons rfl (fun K hK => ?_) ?_
              · go_simp
                refine (HCl.out _).mono ?_
                rintro e w' ⟨rfl, q, rfl⟩
                go_simp
                refine hK.out _ _ (hHeld) (fun hHeld => ?_)
                clear hK K
                refine wpAnyH_take (i := 7) (v := (.agg #[.string cl, .int .i64 (at_ : Nat)])) rfl (by kernel_rfl) (by kernel_rfl) (by kernel_rfl) (fun _ _ _ h => h) (Or.inl ⟨by rfl, ?_⟩) hHeld ?_
                · intro w hSw; obtain ⟨s1, s2, s3⟩ := hSw; go_simp
                simp only [Act.put, List.setIfInBounds_toArray, List.set_cons_zero, List.set_cons_succ]
                refine wpAnyH_ready (rs := [8]) (by kernel_rfl) (by simp) ?_
                refine AllReadyH.cons rfl (fun K hK => ?_) ?_
                · go_simp
                  refine hK.out _ _ (HSa.out _) (fun hHeld => ?_)
                  clear hK K
                  refine wpAnyH_ready (rs := [9]) (by kernel_rfl) (by simp) ?_
                  refine AllReadyH.cons rfl (fun K hK => ?_) ?_
                  · go_simp
                    refine hK.out _ _ (HSw.out _) (fun hHeld => ?_)
                    clear hK K
                    refine wpAnyH_take (i := 10) (v := (.pointer (some ⟨bo, 1, none⟩))) rfl (by kernel_rfl) (by kernel_rfl) (by kernel_rfl) (fun _ _ _ h => h) (Or.inl ⟨by rfl, ?_⟩) hHeld ?_
                    · intro w hSw; obtain ⟨s1, s2, s3⟩ := hSw; go_simp
                    simp only [Act.put, List.setIfInBounds_toArray, List.set_cons_zero, List.set_cons_succ]
                    refine wpAnyH_ready (rs := [11]) (by kernel_rfl) (by simp) ?_
                    refine AllReadyH.cons rfl (fun K hK => ?_) ?_
                    · go_simp
                      refine hK.out _ _ (HSn.out _) (fun hHeld => ?_)
                      clear hK K
                      refine wpAnyH_done (by kernel_rfl) ?_ _
                      gi_wp2
                      gi_roundg (ws.length - (j + 1))
                      case rel => exact ⟨j + 1, by rw [hjm.out], ⟨by have := HHj.out; omega⟩, ⟨(HNew.out _).1⟩, ⟨(HNew.out _).2.1⟩, ⟨(HNew.out _).2.2.1⟩, ⟨(HNew.out _).2.2.2⟩⟩
                      case measure => have := HJ.out; have := HHj.out; omega
                    exact AllReadyH.nil
                  exact AllReadyH.nil
                exact AllReadyH.nil
              exact AllReadyH.nil
            refine AllReadyH.cons rfl (fun K hK => ?_) ?_
            · go_simp
              refine (HCl.out _).mono ?_
              rintro e w' ⟨rfl, q, rfl⟩
              go_simp
              refine hK.out _ _ (hHeld) (fun hHeld => ?_)
              clear hK K
              refine wpAnyH_take (i := 7) (v := (.agg #[.string cl, .int .i64 (at_ : Nat)])) rfl (by kernel_rfl) (by kernel_rfl) (by kernel_rfl) (fun _ _ _ h => h) (Or.inl ⟨by rfl, ?_⟩) hHeld ?_
              · intro w hSw; obtain ⟨s1, s2, s3⟩ := hSw; go_simp
              simp only [Act.put, List.setIfInBounds_toArray, List.set_cons_zero, List.set_cons_succ]
              refine wpAnyH_ready (rs := [1, 8]) (by kernel_rfl) (by simp) ?_
              refine AllReadyH.cons rfl (fun K hK => ?_) ?_
              · go_simp
                refine hK.out _ _ (hHeld) (fun hHeld => ?_)
                clear hK K
                refine wpAnyH_ready (rs := [8]) (by kernel_rfl) (by simp) ?_
                refine AllReadyH.cons rfl (fun K hK => ?_) ?_
                · go_simp
                  refine hK.out _ _ (HSa.out _) (fun hHeld => ?_)
                  clear hK K
                  refine wpAnyH_ready (rs := [9]) (by kernel_rfl) (by simp) ?_
                  refine AllReadyH.cons rfl (fun K hK => ?_) ?_
                  · go_simp
                    refine hK.out _ _ (HSw.out _) (fun hHeld => ?_)
                    clear hK K
                    refine wpAnyH_take (i := 10) (v := (.pointer (some ⟨bo, 1, none⟩))) rfl (by kernel_rfl) (by kernel_rfl) (by kernel_rfl) (fun _ _ _ h => h) (Or.inl ⟨by rfl, ?_⟩) hHeld ?_
                    · intro w hSw; obtain ⟨s1, s2, s3⟩ := hSw; go_simp
                    simp only [Act.put, List.setIfInBounds_toArray, List.set_cons_zero, List.set_cons_succ]
                    refine wpAnyH_ready (rs := [11]) (by kernel_rfl) (by simp) ?_
                    refine AllReadyH.cons rfl (fun K hK => ?_) ?_
                    · go_simp
                      refine hK.out _ _ (HSn.out _) (fun hHeld => ?_)
                      clear hK K
                      refine wpAnyH_done (by kernel_rfl) ?_ _
                      gi_wp2
                      gi_roundg (ws.length - (j + 1))
                      case rel => exact ⟨j + 1, by rw [hjm.out], ⟨by have := HHj.out; omega⟩, ⟨(HNew.out _).1⟩, ⟨(HNew.out _).2.1⟩, ⟨(HNew.out _).2.2.1⟩, ⟨(HNew.out _).2.2.2⟩⟩
                      case measure => have := HJ.out; have := HHj.out; omega
                    exact AllReadyH.nil
                  exact AllReadyH.nil
                exact AllReadyH.nil
              refine AllReadyH.cons rfl (fun K hK => ?_) ?_
              · go_simp
                refine hK.out _ _ (HSa.out _) (fun hHeld => ?_)
                clear hK K
                refine wpAnyH_ready (rs := [1]) (by kernel_rfl) (by simp) ?_
                refine AllReadyH.cons rfl (fun K hK => ?_) ?_
                · go_simp
                  refine hK.out _ _ (hHeld) (fun hHeld => ?_)
                  clear hK K
                  refine wpAnyH_ready (rs := [9]) (by kernel_rfl) (by simp) ?_
                  refine AllReadyH.cons rfl (fun K hK => ?_) ?_
                  · go_simp
                    refine hK.out _ _ (HSw.out _) (fun hHeld => ?_)
                    clear hK K
                    refine wpAnyH_take (i := 10) (v := (.pointer (some ⟨bo, 1, none⟩))) rfl (by kernel_rfl) (by kernel_rfl) (by kernel_rfl) (fun _ _ _ h => h) (Or.inl ⟨by rfl, ?_⟩) hHeld ?_
                    · intro w hSw; obtain ⟨s1, s2, s3⟩ := hSw; go_simp
                    simp only [Act.put, List.setIfInBounds_toArray, List.set_cons_zero, List.set_cons_succ]
                    refine wpAnyH_ready (rs := [11]) (by kernel_rfl) (by simp) ?_
                    refine AllReadyH.cons rfl (fun K hK => ?_) ?_
                    · go_simp
                      refine hK.out _ _ (HSn.out _) (fun hHeld => ?_)
                      clear hK K
                      refine wpAnyH_done (by kernel_rfl) ?_ _
                      gi_wp2
                      gi_roundg (ws.length - (j + 1))
                      case rel => exact ⟨j + 1, by rw [hjm.out], ⟨by have := HHj.out; omega⟩, ⟨(HNew.out _).1⟩, ⟨(HNew.out _).2.1⟩, ⟨(HNew.out _).2.2.1⟩, ⟨(HNew.out _).2.2.2⟩⟩
                      case measure => have := HJ.out; have := HHj.out; omega
                    exact AllReadyH.nil
                  exact AllReadyH.nil
                exact AllReadyH.nil
              exact AllReadyH.nil
            exact AllReadyH.nil
          · have bj : decide (j < ws.length) = false := decide_eq_false hj
            have HE2 : Aside0 (WInv AnyB w bn br bo bs path names numbers (out ++ ws.map (fun y => (⟨classW names numbers y, (at_ : Nat)⟩ : Lx)), at_, skip) wr) := ⟨by
              have := HI.out.weak (G' := AnyB) (fun _ _ _ => trivial)
              rwa [List.take_of_length_le (by omega)] at this⟩
            obtain ⟨cn1, cn2, cn3, cn4, fr1, fr2⟩ := HE2.out.cells
            have hw64 := HW64.out
            gi_wp2
            have hlow := HE2.out.low
            refine ⟨HK.out.set (bo + 1) 0 _ (by omega), ?_⟩
            rw [HE'.out]
            exact HE2.out.setA _
  case done =>
    rw [HS4.out]
    intro W hi hK
    obtain ⟨v, ho, hR, hvb⟩ := hi.o
    have hlo := lok_all (B := data.size) names numbers (pieces data.size data).length (pieces data.size data) rfl (fun y hy => piece_le hy)
    have hsm := pieces_sum data.size data (Nat.le_refl _)
    have hlen : (linesOf names numbers (pieces data.size data)).1.length ≤ 2000 := by
      have a3 := hlo.len
      omega
    have HWo : Aside0 (wordsOf names numbers data = (linesOf names numbers (pieces data.size data)).1) := ⟨rfl⟩
    clear hlo hsm
    generalize linesOf names numbers (pieces data.size data) = st at hi hR hlen HWo
    obtain ⟨A, c, rfl, hc, hC⟩ := Kd.R_reads hR
    have hlow := hi.low
    have c1 : W.cell? ⟨bo, 0, none⟩ = some (.string path) := blk_cell ho 0
    have c2 : W.cell? ⟨bo, 1, none⟩ = some (.slice A st.1.length c) := blk_cell ho 1
    have c3 : W.cell? ⟨br, 0, none⟩ = some (.string ⟨#[]⟩) := blk_cell hi.r 0
    have c4 : W.cell? ⟨br, 1, none⟩ = some (.slice none 0 0) := blk_cell hi.r 1
    have f3 : W.frozen? ⟨br, 0, none⟩ = false := blk_frozen hi.r 0
    have f4 : W.frozen? ⟨br, 1, none⟩ = false := blk_frozen hi.r 1
    have b3 : decide ((8192 : Int) < (st.1.length : Int)) = false := by simp; omega
    have HI := Aside0.mk hi
    have HR := Aside0.mk (And.intro hR hC)
    have HO := Aside0.mk (And.intro ho hvb)
    have HK := Aside0.mk hK
    have HC := Aside0.mk (And.intro hc hlow)
    clear hi hR hC ho hvb hK hc hlow hlen
    gi_wp2
    obtain ⟨hc, hl1, hl2, hl3, hl4⟩ := HC.out
    have hK' : ((W.setCell ⟨br, 0, none⟩ (.string path)).setCell ⟨br, 1, none⟩ (.slice A st.1.length c)).heap[bs + 3]? = some (.deferred (some [])) :=
      (Below.heap_setCell _ ⟨br, 1, none⟩ _ (bs + 3) (by show bs + 3 ≠ br; omega)).trans ((Below.heap_setCell _ ⟨br, 0, none⟩ _ (bs + 3) (by show bs + 3 ≠ br; omega)).trans HK.out)
    refine ⟨by simp, .inl ⟨_, _, rfl, run_takeDeferred hK', ?_⟩⟩
    have g1 := grownBy_setCells W br 0 (.string path)
    have g2 := grownBy_setCells (W.setCell ⟨br, 0, none⟩ (.string path)) br 1 (.slice A st.1.length c)
    have g3 := grownBy_putObj' ((W.setCell ⟨br, 0, none⟩ (.string path)).setCell ⟨br, 1, none⟩ (.slice A st.1.length c)) (bs + 3) (.deferred none)
    have hbr : (((W.setCell ⟨br, 0, none⟩ (.string path)).setCell ⟨br, 1, none⟩ (.slice A st.1.length c)).putObj (bs + 3) (.deferred none)).heap[br]? = some (.cells #[.string path, .slice A st.1.length c] 25 (0, 0)) := by
      have h2 := blk_set (blk_set HI.out.r 0 (.string path)) 1 (.slice A st.1.length c)
      exact (g3.block br (blk_lt h2) (fun e => by injection e with e; omega)).trans h2
    have k5 := blk_cell hbr 0
    have k6 := blk_cell hbr 1
    have hown := fun q (hq : (Value.slice A st.1.length c).ownBlock = some q) => (HO.out.2 q hq).1
    have hR5 := R_keptL (R_keptL (R_keptL HR.out.1 (kept_by g1) (fun q hq e => by have := hown q hq; injection e with e; omega)) (kept_by g2) (fun q hq e => by have := hown q hq; injection e with e; omega)) (kept_by g3) (fun q hq e => by have := hown q hq; injection e with e; omega)
    have hB5 := (((HI.out.below.grown g1 HI.out.below.size (fun q hq => by injection hq with hq; omega)).grown g2 (Nat.le_trans HI.out.below.size g1.size) (fun q hq => by injection hq with hq; omega)).grown g3 (Nat.le_trans (Nat.le_trans HI.out.below.size g1.size) g2.size) (fun q hq => by injection hq with hq; omega))
    obtain ⟨A', c', he, hc', hC'⟩ := Kd.R_reads hR5
    injection he with he1 _ he2
    subst he1 he2
    refine ⟨.tuple #[.agg #[.string path, .slice A st.1.length c], .int .i64 0], ?_, ⟨A, c, by rw [HWo.out], by rw [HWo.out]; exact hc, by rw [HWo.out]; exact hC', hB5⟩⟩
    simp [results, Tryz.f5, go_sem, k5, k6]
end Go.Proofs.YtbakoigejihnaaaGreatDoor.Wp
end
