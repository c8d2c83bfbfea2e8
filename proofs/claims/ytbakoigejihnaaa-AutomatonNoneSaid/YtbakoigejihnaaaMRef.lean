/- The reference functions, and the chapter's example, walked. -/
import Derived.Test.YtbakoigejihnaaaProg
import Derived.Below
import Derived.Deep.Draws
import Derived.Deep.AppendLies
import Derived.Maps.AppendAt
import Derived.OwnWalk
import Derived.Laws.BytesArg
import Derived.Laws.MakeOwn
import Derived.Laws.OwnMore
import Derived.Deep.OwnRows
import Derived.Tactics
import Derived.Lib.ConvBytes
import Derived.Laws.Slices
import Derived.WalkKit
import Derived.KernelRfl
import Derived.RowKit3
import Derived.Deep.LoopGhost
import Derived.Deep.QuietTactic
import Derived.BigQuiet
import Derived.WideLaws
import Derived.Deep.DeepCutAuto
import Derived.Deep.CutBlock
import Derived.Deep.RegionHeld3
import Derived.Laws.Rows
import Derived.Lib.AppendStr
import Derived.ArgAppend
import Derived.Laws.IdiomCopy
import Derived.OrdersHeld
import Derived.Laws.BitsLemmas
import Derived.RowKit
import Derived.Test.YtbakoigejihnaaaWWords
import Derived.Test.YtbakoigejihnaaaWLast
import Derived.Test.YtbakoigejihnaaaWTab
import Derived.Test.YtbakoigejihnaaaWFour
import Derived.Test.YtbakoigejihnaaaWQPut
import Derived.Test.YtbakoigejihnaaaWApart
import Derived.Test.YtbakoigejihnaaaWArr
import Derived.Test.YtbakoigejihnaaaWZeros
import Derived.Test.YtbakoigejihnaaaWFoot
import Derived.Test.YtbakoigejihnaaaWKept
import Derived.Test.YtbakoigejihnaaaWShare
import Derived.Test.YtbakoigejihnaaaWN
import Derived.Test.YtbakoigejihnaaaWFootNe
import Derived.Test.YtbakoigejihnaaaWAt
import Derived.Test.YtbakoigejihnaaaWEqStruct
import Derived.Test.YtbakoigejihnaaaWRepsOne
import Derived.Test.YtbakoigejihnaaaWInv
import Derived.Test.YtbakoigejihnaaaWInvWords
import Derived.Test.YtbakoigejihnaaaWGuard
import Derived.Test.YtbakoigejihnaaaWNEv
import Derived.Test.YtbakoigejihnaaaWMore
import Derived.Test.YtbakoigejihnaaaMWalk
import Derived.Test.YtbakoigejihnaaaRows
import Derived.ProofKit
import Derived.OpenShut
import Derived.ShutString
import Derived.ChangeOld
import Derived.SizedLaws
import Derived.Deep.SlicePairs
/- The kinds of values of the reference functions. -/
namespace Go.Proofs.Ytbakoigejihnaaa.Ref
open Go.RowKit Go.Proofs.YtbakoigejihnaaaW.PrintWords Go.Proofs.YtbakoigejihnaaaW.PrintLast Go.Proofs.YtbakoigejihnaaaW.PrintMore
attribute [local go_sem] max2_int min2_int max_two min_two max_three min_three max_four min_four   -- for this text's walks alone
set_option linter.unusedVariables false
set_option linter.unusedSimpArgs false



def errW : Option Int → Value
  | none => .nilIface
  | some c => .iface 0 (.int .i64 c)
theorem errW_none : errW none = .nilIface := rfl
theorem errW_some (c : Int) : errW (some c) = .iface 0 (.int .i64 c) := rfl

theorem info22 : (Try.prog.info? 22).map (fun i => (i.zero, i.size, i.bytes)) = some (some (.slice none 0 0), 1, 24) := by kernel_rfl
theorem info3 : (Try.prog.info? 3).map (fun i => (i.zero, i.size, i.bytes)) = some (some (.int .i64 0), 1, 8) := by kernel_rfl
theorem info41 : (Try.prog.info? 41).map (fun i => (i.zero, i.size, i.bytes)) = some (some (.agg #[(.string ⟨#[]⟩), (.int .i64 0)]), 2, 24) := by kernel_rfl
-- the values' own types
/-! #### struct type 41 -/
structure S41 where
  f0 : ByteArray
  f1 : Int
def z41 : S41 := ⟨(⟨#[]⟩ : ByteArray), (0 : Int)⟩
def k41 : Kd S41 := Kd.iso (Kd.pair Kd.string (Kd.int .i64)) (fun x : S41 => (x.f0, x.f1))
theorem k41_open {w : World} {x : S41} {cs : List Value} (h : k41.K w x cs) : cs = [.string x.f0, .int .i64 x.f1] := by
  obtain ⟨_, _, rfl, rfl, rfl⟩ := h
  exact rfl
theorem k41_openM {w : World} {base : Nat} {ok : Nat → Prop} {x : S41} {cs : List Value} (h : k41.M w base ok x cs) : cs = [.string x.f0, .int .i64 x.f1] := by
  obtain ⟨_, _, rfl, rfl, rfl⟩ := h
  exact rfl
theorem k41_mk (w : World) (x : S41)  : k41.K w x [.string x.f0, .int .i64 x.f1] := ⟨[.string x.f0], [.int .i64 x.f1], rfl, rfl, rfl⟩
theorem k41_mkM (w : World) (base : Nat) (ok : Nat → Prop) (x : S41)  : k41.M w base ok x [.string x.f0, .int .i64 x.f1] := ⟨[.string x.f0], [.int .i64 x.f1], rfl, rfl, rfl⟩
theorem k41_mkF (W : World) (ok : Nat → Prop) (x : S41) : Kd.FK k41 W ok x [.string x.f0, .int .i64 x.f1] := fun W2 _ => k41_mk W2 x
def rd_T41 (xs : List S41) (i : Int) : S41 := xs.getD i.toNat z41
theorem at_T41 {w : World} {A : Option Addr} {n : Nat} {xs : List S41} (h : Kd.C k41 w A n xs) (i : Int) (h0 : 0 ≤ i) (h1 : i < n) : ∃ ad , A = some ad ∧ w.cell? (ad.add (i.toNat * 2)) = some (.string (rd_T41 xs i).f0) ∧ w.cell? ⟨(ad.add (i.toNat * 2)).block, (ad.add (i.toNat * 2)).off + 1, none⟩ = some (.int .i64 (rd_T41 xs i).f1) := by
  obtain ⟨ad, c, e, _, hK, hc0⟩ := Kd.C_get h z41 i h0 h1
  have hc : ∀ j u, c[j]? = some u → w.cell? (ad.add (i.toNat * 2 + j)) = some u := hc0
  obtain rfl := k41_open hK
  exact ⟨ad, e, hc 0 _ rfl, by rw [← add_field _ _ 1 (by omega)]; exact hc 1 _ rfl⟩

def rd_L3 (xs : List (List S41)) (i : Int) : (List S41) := xs.getD i.toNat ([] : List S41)
theorem at_L3 {w : World} {A : Option Addr} {n : Nat} {xs : List (List S41)} (h : Kd.C (Kd.slice 41 k41) w A n xs) (i : Int) (h0 : 0 ≤ i) (h1 : i < n) : ∃ ad A0 c0, A = some ad ∧ w.cell? (ad.add i.toNat) = some (.slice A0 (rd_L3 xs i).length c0) ∧ (rd_L3 xs i).length ≤ c0 ∧ k41.C w A0 (rd_L3 xs i).length (rd_L3 xs i) := by
  obtain ⟨ad, c, e, _, hK, hc0⟩ := Kd.C_get h ([] : List S41) i h0 h1
  have hc : ∀ j u, c[j]? = some u → w.cell? (ad.add (i.toNat * 1 + j)) = some u := hc0
  obtain ⟨A0, c0, rfl, l0, g0⟩ := hK
  exact ⟨ad, A0, c0, e, by have hq := hc 0 _ rfl; rwa [Nat.mul_one, Nat.add_zero] at hq, l0, g0⟩

end Go.Proofs.Ytbakoigejihnaaa.Ref

/- Reference functions: what they compute and that the code computes it. -/
namespace Go.Proofs.Ytbakoigejihnaaa.Ref
open Go.RowKit Go.Proofs.YtbakoigejihnaaaW.PrintWords Go.Proofs.YtbakoigejihnaaaW.PrintLast Go.Proofs.YtbakoigejihnaaaW.PrintMore
attribute [local go_sem] max2_int min2_int max_two min_two max_three min_three max_four min_four   -- for this text's walks alone
set_option linter.unusedVariables false
set_option linter.unusedSimpArgs false

/-! ### slices_Equal_int_int: function 20 -/
def slices_Equal_int_int.l0 : Nat → List Int → List Int → Int → Int → Option (Bool)
  | 0, _, _, _, _ => none
  | k + 1, x0, x1, x12, x13 => if x13 < x12 then (if 0 ≤ x13 then (if x13 < (x0.length : Int) then (if x13 < (x1.length : Int) then (if (rd x0 x13) = (rd x1 x13) then (slices_Equal_int_int.l0 k x0 x1 x12 (wrap64 (x13 + 1))) else (some false)) else (none)) else (none)) else (none)) else (some true)
def slices_Equal_int_int.f (k : Nat) (l0 : List Int) (l1 : List Int) : Option (Bool) := if (l0.length : Int) = (l1.length : Int) then (slices_Equal_int_int.l0 k l0 l1 (l0.length : Int) 0) else (some false)
theorem slices_Equal_int_int.mono_l : ∀ k, (∀ y0 y1 y2 y3, LeO (slices_Equal_int_int.l0 k y0 y1 y2 y3) (slices_Equal_int_int.l0 (k + 1) y0 y1 y2 y3))
  | 0 => fun _ _ _ _ r h => by simp [slices_Equal_int_int.l0] at h
  | k + 1 => by
    have ih0 := slices_Equal_int_int.mono_l k
    · intro y0 y1 y2 y3
      unfold slices_Equal_int_int.l0
      repeat' first
      | (with_reducible exact ih0 _ _ _ _)
      | (with_reducible exact LeO.refl _)
      | (with_reducible exact LeO.none _)
      | (with_reducible refine LeO.ite ?_ ?_)
      | (with_reducible refine LeO.bind ?_ (fun _ => ?_))
      | exact ih0 _ _ _ _
      | exact LeO.none _
      | refine LeO.ite ?_ ?_
      | refine LeO.bind ?_ (fun _ => ?_)
theorem slices_Equal_int_int.mono : ∀ a0 a1 k, LeO (slices_Equal_int_int.f k a0 a1) (slices_Equal_int_int.f (k + 1) a0 a1) := by
  intro a0 a1 k
  have ih0 := slices_Equal_int_int.mono_l k
  unfold slices_Equal_int_int.f
  repeat' first
      | (with_reducible exact ih0 _ _ _ _)
      | (with_reducible exact LeO.refl _)
      | (with_reducible exact LeO.none _)
      | (with_reducible refine LeO.ite ?_ ?_)
      | (with_reducible refine LeO.bind ?_ (fun _ => ?_))
      | exact ih0 _ _ _ _
      | exact LeO.none _
      | refine LeO.ite ?_ ?_
      | refine LeO.bind ?_ (fun _ => ?_)
set_option maxHeartbeats 8000000 in
set_option maxRecDepth 100000 in
theorem slices_Equal_int_int.calls (k : Nat) (A0 : Option Addr) (c0 : Nat) (l0 : List Int) (A1 : Option Addr) (c1 : Nat) (l1 : List Int) (r : Bool) (w : World) (hr0 : Kd.C (Kd.int .i64) w A0 l0.length l0) (hc0 : l0.length ≤ c0) (hr1 : Kd.C (Kd.int .i64) w A1 l1.length l1) (hc1 : l1.length ≤ c1) (h : slices_Equal_int_int.f k l0 l1 = some r) :
    Calls Try.prog 20 #[.slice A0 l0.length c0, .slice A1 l1.length c1] w fun e w' => e = .returned (.bool r) ∧ Drawn0 w w' := by
  have HR0 := Aside0.mk hr0
  have HC0 := Aside0.mk hc0
  clear hr0 hc0
  have HR1 := Aside0.mk hr1
  have HC1 := Aside0.mk hc1
  clear hr1 hc1
  have H : (if (l0.length : Int) = (l1.length : Int) then (slices_Equal_int_int.l0 k l0 l1 (l0.length : Int) 0) else (some false)) = some r := h
  clear h
  by_cases c3 : (l0.length : Int) = (l1.length : Int)
  · rw [if_pos c3] at H
    have c3b0 : ((l0.length : Int) == (l1.length : Int)) = true := beq_iff_eq.mpr c3
    have c3b1 : ((l0.length : Int) != (l1.length : Int)) = false := bne_eq_false_iff_eq.mpr c3
    have c3b2 : (l0.length == l1.length) = true := by first | simpa using c3 | (simp at c3 ⊢; omega)
    clear c3
    have H' := Aside0.mk H
    clear H
    go_enter Try.func20, Try.ntmps20
    go_wp2
    repeat (go_quiet (fail); try go_wp2)
    go_loopg [13] k (fun kq v13 w' => ∃ (x13_1 : Int), v13 = .int .i64 x13_1 ∧ Aside0 (slices_Equal_int_int.l0 kq l0 l1 (l0.length : Int) x13_1 = some r) ∧ Aside0 (kq ≤ k) ∧ Drawn0 w w')
    case atStart => exact ⟨(0), (by first | rfl | (simp; done) | (simp [*]; done)), H', ⟨Nat.le_refl _⟩, by repeat (first | exact Drawn0.refl _ | apply Drawn0.step)⟩
    case round =>
      clear H'
      try clear c1
      try clear c2
      try clear p2
      try clear c3
      try clear c3b0
      try clear c3b1
      try clear c3b2
      obtain ⟨x13_1, rfl, HA, HK1, ⟨m1, rfl⟩⟩ := hrel
      cases gk with
      | zero => exact absurd HA.out (by simp [slices_Equal_int_int.l0])
      | succ k1 =>
        have H := HA.out
        clear HA
        simp only [slices_Equal_int_int.l0] at H
        by_cases c4 : x13_1 < (l0.length : Int)
        · rw [if_pos c4] at H
          have c4b0 : decide (x13_1 < (l0.length : Int)) = true := decide_eq_true c4
          clear c4
          by_cases c5 : 0 ≤ x13_1
          · rw [if_pos c5] at H
            have c5b0 : decide (0 ≤ x13_1) = true := decide_eq_true c5
            clear c5
            by_cases c6 : x13_1 < (l0.length : Int)
            · rw [if_pos c6] at H
              have c6b0 : decide (x13_1 < (l0.length : Int)) = true := decide_eq_true c6
              clear c6
              by_cases c7 : x13_1 < (l1.length : Int)
              · rw [if_pos c7] at H
                have c7b0 : decide (x13_1 < (l1.length : Int)) = true := decide_eq_true c7
                clear c7
                by_cases c8 : (rd l0 x13_1) = (rd l1 x13_1)
                · rw [if_pos c8] at H
                  have c8b0 : ((rd l0 x13_1) == (rd l1 x13_1)) = true := beq_iff_eq.mpr c8
                  have c8b1 : ((rd l0 x13_1) != (rd l1 x13_1)) = false := bne_eq_false_iff_eq.mpr c8
                  clear c8
                  have H' := Aside0.mk H
                  clear H
                  have p103 : 0 ≤ (x13_1 : Int) := of_decide_eq_true (by first | (with_reducible assumption) | assumption)
                  have q103 : x13_1 < (l0.length : Int) := of_decide_eq_true (by first | (with_reducible assumption) | assumption)
                  obtain ⟨ad103, e103, hx103_0⟩ := Kd.at_int HR0.out x13_1 p103 q103
                  cases e103
                  replace p103 := eq_true p103
                  replace q103 := eq_true q103
                  have p104 : 0 ≤ (x13_1 : Int) := of_decide_eq_true (by first | (with_reducible assumption) | assumption)
                  have q104 : x13_1 < (l1.length : Int) := of_decide_eq_true (by first | (with_reducible assumption) | assumption)
                  obtain ⟨ad104, e104, hx104_0⟩ := Kd.at_int HR1.out x13_1 p104 q104
                  cases e104
                  replace p104 := eq_true p104
                  replace q104 := eq_true q104
                  go_wp2
                  repeat (go_quiet (fail); try go_wp2)
                  go_roundg k1
                  case measure => have := HK1.out; omega
                  case rel => exact ⟨(wrap64 (x13_1 + 1)), (by first | rfl | (simp; done) | (simp [*]; done)), H', ⟨by have := HK1.out; omega⟩, by repeat (first | exact Drawn0.refl _ | apply Drawn0.step)⟩
                · rw [if_neg c8] at H
                  have c8b0 : ((rd l0 x13_1) == (rd l1 x13_1)) = false := beq_eq_false_iff_ne.mpr c8
                  have c8b1 : ((rd l0 x13_1) != (rd l1 x13_1)) = true := bne_iff_ne.mpr c8
                  obtain rfl := Option.some.inj H
                  have p103 : 0 ≤ (x13_1 : Int) := of_decide_eq_true (by first | (with_reducible assumption) | assumption)
                  have q103 : x13_1 < (l0.length : Int) := of_decide_eq_true (by first | (with_reducible assumption) | assumption)
                  obtain ⟨ad103, e103, hx103_0⟩ := Kd.at_int HR0.out x13_1 p103 q103
                  cases e103
                  replace p103 := eq_true p103
                  replace q103 := eq_true q103
                  have p104 : 0 ≤ (x13_1 : Int) := of_decide_eq_true (by first | (with_reducible assumption) | assumption)
                  have q104 : x13_1 < (l1.length : Int) := of_decide_eq_true (by first | (with_reducible assumption) | assumption)
                  obtain ⟨ad104, e104, hx104_0⟩ := Kd.at_int HR1.out x13_1 p104 q104
                  cases e104
                  replace p104 := eq_true p104
                  replace q104 := eq_true q104
                  go_wp2
                  repeat (go_quiet (fail); try go_wp2)
                  go_ret
                  exact ⟨by first | rfl | (simp; done) | (simp [*]; done), by repeat (first | exact Drawn0.refl _ | apply Drawn0.step)⟩
              · rw [if_neg c7] at H
                exact absurd H (by simp)
            · rw [if_neg c6] at H
              exact absurd H (by simp)
          · rw [if_neg c5] at H
            exact absurd H (by simp)
        · rw [if_neg c4] at H
          have c4b0 : decide (x13_1 < (l0.length : Int)) = false := decide_eq_false c4
          clear c4
          obtain rfl := Option.some.inj H
          go_wp2
          repeat (go_quiet (fail); try go_wp2)
          go_ret
          exact ⟨by first | rfl | (simp; done) | (simp [*]; done), by repeat (first | exact Drawn0.refl _ | apply Drawn0.step)⟩
  · rw [if_neg c3] at H
    have c3b0 : ((l0.length : Int) == (l1.length : Int)) = false := beq_eq_false_iff_ne.mpr c3
    have c3b1 : ((l0.length : Int) != (l1.length : Int)) = true := bne_iff_ne.mpr c3
    have c3b2 : (l0.length == l1.length) = false := by first | simpa using c3 | (simp at c3 ⊢; omega)
    obtain rfl := Option.some.inj H
    go_enter Try.func20, Try.ntmps20
    go_wp2
    repeat (go_quiet (fail); try go_wp2)
    go_ret
    exact ⟨by first | rfl | (simp; done) | (simp [*]; done), by repeat (first | exact Drawn0.refl _ | apply Drawn0.step)⟩

/-! ### licitlaw27_words: function 33 -/
def licitlaw27_words.l0 : Nat → ByteArray → List (S41) → Int → Int → Option ((List (S41)))
  | 0, _, _, _, _ => none
  | k + 1, x0, x3, x6, x7 => if x7 < x6 then (if 0 ≤ x7 then (if x7 ≤ (wrap64 (x7 + 1)) then (if (wrap64 (x7 + 1)) ≤ (x0.size : Int) then (if x3.length < 5864062014805 then (licitlaw27_words.l0 k x0 (x3 ++ [(⟨x0.extract (x7 : Int).toNat ((wrap64 (x7 + 1)) : Int).toNat, 0⟩ : S41)]) x6 (wrap64 (x7 + 1))) else (none)) else (none)) else (none)) else (none)) else (some x3)
def licitlaw27_words.f (k : Nat) (a0 : ByteArray) : Option ((List (S41))) := licitlaw27_words.l0 k a0 ([] : List (S41)) (a0.size : Int) 0
theorem licitlaw27_words.mono_l : ∀ k, (∀ y0 y1 y2 y3, LeO (licitlaw27_words.l0 k y0 y1 y2 y3) (licitlaw27_words.l0 (k + 1) y0 y1 y2 y3))
  | 0 => fun _ _ _ _ r h => by simp [licitlaw27_words.l0] at h
  | k + 1 => by
    have ih0 := licitlaw27_words.mono_l k
    · intro y0 y1 y2 y3
      unfold licitlaw27_words.l0
      repeat' first
      | (with_reducible exact ih0 _ _ _ _)
      | (with_reducible exact LeO.refl _)
      | (with_reducible exact LeO.none _)
      | (with_reducible refine LeO.ite ?_ ?_)
      | (with_reducible refine LeO.bind ?_ (fun _ => ?_))
      | exact ih0 _ _ _ _
      | exact LeO.none _
      | refine LeO.ite ?_ ?_
      | refine LeO.bind ?_ (fun _ => ?_)
theorem licitlaw27_words.mono : ∀ a0 k, LeO (licitlaw27_words.f k a0) (licitlaw27_words.f (k + 1) a0) := by
  intro a0 k
  have ih0 := licitlaw27_words.mono_l k
  unfold licitlaw27_words.f
  repeat' first
      | (with_reducible exact ih0 _ _ _ _)
      | (with_reducible exact LeO.refl _)
      | (with_reducible exact LeO.none _)
      | (with_reducible refine LeO.ite ?_ ?_)
      | (with_reducible refine LeO.bind ?_ (fun _ => ?_))
      | exact ih0 _ _ _ _
      | exact LeO.none _
      | refine LeO.ite ?_ ?_
      | refine LeO.bind ?_ (fun _ => ?_)
set_option maxHeartbeats 8000000 in
set_option maxRecDepth 100000 in
theorem licitlaw27_words.calls (k : Nat) (a0 : ByteArray) (r : List (S41)) (w : World) (h : licitlaw27_words.f k a0 = some r) :
    Calls Try.prog 33 #[.string a0] w fun e w' => ∃ v0_ : Value, e = .returned (v0_) ∧ Kd.R k41 41 w' w.heap.size (fun _ => True) v0_ r ∧ Below w.heap.size w w' := by
  have hu41 := Try.underlying41
  have HB := Aside0.mk (Below.refl w.heap.size w)
  have H : (licitlaw27_words.l0 k a0 ([] : List (S41)) (a0.size : Int) 0) = some r := h
  clear h
  have H' := Aside0.mk H
  clear H
  go_enter Try.func33, Try.ntmps33
  go_wp2
  go_loopg [3, 7] k (fun kq v3 v7 w' => ∃ (x3_1 : List (S41)) (x7_1 : Int), v7 = .int .i64 x7_1 ∧ Aside0 (licitlaw27_words.l0 kq a0 x3_1 (a0.size : Int) x7_1 = some r) ∧ Aside0 (kq ≤ k) ∧ Aside0 (Kd.R k41 41 w' w.heap.size (fun _ => True) v3 x3_1) ∧ Aside0 (Below w.heap.size w w'))
  case atStart => exact ⟨(([] : List (S41))), (0), (by first | rfl | (simp; done) | (simp [*]; done)), H', ⟨Nat.le_refl _⟩, ⟨by first | exact Kd.R_nil _ _ _ _ _ | exact Kd.N_nil _ _ _ _ _ | exact Kd.V_nil _ _ _ _ _ | exact Kd.Q_nil _ _ _ _ _ | exact Kd.S_nil _ _ _ _ _⟩, ⟨by repeat (first | (with_reducible first | exact HB.out | apply below_alloc | apply pw_below_drewN | apply below_drew1) | exact HB.out)⟩⟩
  case round =>
    clear H'
    obtain ⟨x3_1, x7_1, rfl, HA, HK1, HO_3, HB⟩ := hrel
    cases gk with
    | zero => exact absurd HA.out (by simp [licitlaw27_words.l0])
    | succ k1 =>
      have H := HA.out
      clear HA
      simp only [licitlaw27_words.l0] at H
      by_cases c2 : x7_1 < (a0.size : Int)
      · rw [if_pos c2] at H
        have c2b0 : decide (x7_1 < (a0.size : Int)) = true := decide_eq_true c2
        clear c2
        by_cases c3 : 0 ≤ x7_1
        · rw [if_pos c3] at H
          have c3b0 := eq_true c3
          have c3b1 : decide (0 ≤ x7_1) = true := decide_eq_true c3
          clear c3
          by_cases c4 : x7_1 ≤ (wrap64 (x7_1 + 1))
          · rw [if_pos c4] at H
            have c4b0 := eq_true c4
            have c4b1 : decide (x7_1 ≤ (wrap64 (x7_1 + 1))) = true := decide_eq_true c4
            by_cases c5 : (wrap64 (x7_1 + 1)) ≤ (a0.size : Int)
            · rw [if_pos c5] at H
              have c5b0 := eq_true c5
              have c5b1 : decide ((wrap64 (x7_1 + 1)) ≤ (a0.size : Int)) = true := decide_eq_true c5
              by_cases c6 : x3_1.length < 5864062014805
              · rw [if_pos c6] at H
                have LMc6 := Aside0.mk c6
                clear c6
                obtain ⟨y105, hy105⟩ : ∃ y_ : List (S41), y_ = (x3_1 ++ [(⟨a0.extract (x7_1 : Int).toNat ((wrap64 (x7_1 + 1)) : Int).toNat, 0⟩ : S41)]) := ⟨_, rfl⟩
                replace H : (licitlaw27_words.l0 k1 a0 y105 (a0.size : Int) (wrap64 (x7_1 + 1))) = some r := by first | (rw [hy105]; with_reducible exact H) | (have H2_ := (Option.bind_some _ _).symm.trans H; rw [hy105]; with_reducible exact H2_) | (have H2_ := (Option.bind_some _ _).symm.trans H; with_reducible exact H2_) | with_reducible exact H | (rw [hy105]; exact H) | exact H
                have Ny105 := Aside0.mk hy105
                clear hy105
                have H' := Aside0.mk H
                clear H
                go_wp2_with (first | ((with_reducible refine gate_builtin (b := .append) (xs := #[.tmp 10, .tmp 17]) rfl ?_); at_builtin; refine Kd.R_append k41 (w0 := w) w.heap.size rfl (.tmp 10) (.tmp 17) 22 41 (.agg #[(.string ⟨#[]⟩), (.int .i64 0)]) 24 rfl Try.underlying22 info41 rfl (by decide) (by omega) u3 x3_1 (⟨a0.extract (x7_1 : Int).toNat ((wrap64 (x7_1 + 1)) : Int).toNat, 0⟩ : S41) [.string (a0.extract (x7_1 : Int).toNat ((wrap64 (x7_1 + 1)) : Int).toNat), .int .i64 0] (fun _ => True) (fun _ => False) rfl rfl ?aP (fun _ hk => hk.elim) ?aF ?aO ?aB ?aS ?aL ?_; (case aP => exact k41_mkM _ _ _ (⟨a0.extract (x7_1 : Int).toNat ((wrap64 (x7_1 + 1)) : Int).toNat, 0⟩ : S41)); (case aB => exact (by repeat (first | (with_reducible first | exact HB.out | apply below_alloc | apply pw_below_drewN | apply below_drew1) | exact HB.out))); (case aF => exact (fun _ _ => trivial)); (case aO => exact (by (with_reducible repeat (first | apply Kd.R_alloc | apply Kd.R_drewN | apply Kd.R_drew)); exact HO_3.out)); (case aS => exact (below_size (by repeat (first | (with_reducible first | exact HB.out | apply below_alloc | apply pw_below_drewN | apply below_drew1) | exact HB.out)))); (case aL => have := LMc6.out; omega); intro v106 w7 ho hb hg hat; rw [← Ny105.out] at ho; have n0_ := Aside0.mk (hb); have n1_ := Aside0.mk (ho); clear HB; clear HO_3; have HB := n0_; have HO107 := n1_; clear n0_ n1_; clear ho hb hg hat))
                go_roundg k1
                case measure => have := HK1.out; omega
                case rel => exact ⟨(y105), (wrap64 (x7_1 + 1)), (by first | rfl | (simp; done) | (simp [*]; done)), H', ⟨by have := HK1.out; omega⟩, ⟨by (with_reducible repeat (first | apply Kd.R_alloc | apply Kd.R_drewN | apply Kd.R_drew)); exact HO107.out⟩, ⟨by repeat (first | (with_reducible first | exact HB.out | apply below_alloc | apply pw_below_drewN | apply below_drew1) | exact HB.out)⟩⟩
              · rw [if_neg c6] at H
                exact absurd H (by simp)
            · rw [if_neg c5] at H
              exact absurd H (by simp)
          · rw [if_neg c4] at H
            exact absurd H (by simp)
        · rw [if_neg c3] at H
          exact absurd H (by simp)
      · rw [if_neg c2] at H
        have c2b0 : decide (x7_1 < (a0.size : Int)) = false := decide_eq_false c2
        clear c2
        obtain rfl := Option.some.inj H
        go_wp2
        go_ret
        exact ⟨_, by first | rfl | (simp [errW_none, errW_some] <;> rfl) | (simp [*, errW_none, errW_some] <;> rfl), by (with_reducible repeat (first | apply Kd.R_alloc | apply Kd.R_drewN | apply Kd.R_drew)); exact HO_3.out, by repeat (first | (with_reducible first | exact HB.out | apply below_alloc | apply pw_below_drewN | apply below_drew1) | exact HB.out)⟩

/-! ### licitref24_Few: function 17 -/
def licitref24_Few.l0 : Nat → List (S41) → Int → Option (Bool)
  | 0, _, _ => none
  | k + 1, x0, x3 => if x3 < (x0.length : Int) then (if 0 ≤ x3 then (if (((rd_T41 x0 x3).f0).size : Int) > 40 then (some false) else (licitref24_Few.l0 k x0 (wrap64 (x3 + 1)))) else (none)) else (some true)
def licitref24_Few.f (k : Nat) (l0 : List (S41)) : Option (Bool) := if (l0.length : Int) > 40 then (some false) else (licitref24_Few.l0 k l0 0)
theorem licitref24_Few.mono_l : ∀ k, (∀ y0 y1, LeO (licitref24_Few.l0 k y0 y1) (licitref24_Few.l0 (k + 1) y0 y1))
  | 0 => fun _ _ r h => by simp [licitref24_Few.l0] at h
  | k + 1 => by
    have ih0 := licitref24_Few.mono_l k
    · intro y0 y1
      unfold licitref24_Few.l0
      repeat' first
      | (with_reducible exact ih0 _ _)
      | (with_reducible exact LeO.refl _)
      | (with_reducible exact LeO.none _)
      | (with_reducible refine LeO.ite ?_ ?_)
      | (with_reducible refine LeO.bind ?_ (fun _ => ?_))
      | exact ih0 _ _
      | exact LeO.none _
      | refine LeO.ite ?_ ?_
      | refine LeO.bind ?_ (fun _ => ?_)
theorem licitref24_Few.mono : ∀ a0 k, LeO (licitref24_Few.f k a0) (licitref24_Few.f (k + 1) a0) := by
  intro a0 k
  have ih0 := licitref24_Few.mono_l k
  unfold licitref24_Few.f
  repeat' first
      | (with_reducible exact ih0 _ _)
      | (with_reducible exact LeO.refl _)
      | (with_reducible exact LeO.none _)
      | (with_reducible refine LeO.ite ?_ ?_)
      | (with_reducible refine LeO.bind ?_ (fun _ => ?_))
      | exact ih0 _ _
      | exact LeO.none _
      | refine LeO.ite ?_ ?_
      | refine LeO.bind ?_ (fun _ => ?_)
set_option maxHeartbeats 8000000 in
set_option maxRecDepth 100000 in
theorem licitref24_Few.calls (k : Nat) (A0 : Option Addr) (c0 : Nat) (l0 : List (S41)) (r : Bool) (w : World) (hr0 : Kd.C k41 w A0 l0.length l0) (hc0 : l0.length ≤ c0) (h : licitref24_Few.f k l0 = some r) :
    Calls Try.prog 17 #[.slice A0 l0.length c0] w fun e w' => e = .returned (.bool r) ∧ Drawn0 w w' := by
  have HR0 := Aside0.mk hr0
  have HC0 := Aside0.mk hc0
  clear hr0 hc0
  have H : (if (l0.length : Int) > 40 then (some false) else (licitref24_Few.l0 k l0 0)) = some r := h
  clear h
  by_cases c2 : (l0.length : Int) > 40
  · rw [if_pos c2] at H
    have c2b0 : decide (40 < (l0.length : Int)) = true := decide_eq_true c2
    have c2b1 : decide (40 < l0.length) = true := decide_eq_true (by omega)
    clear c2
    obtain rfl := Option.some.inj H
    go_enter Try.func17, Try.ntmps17
    go_wp2
    go_ret
    exact ⟨by first | rfl | (simp; done) | (simp [*]; done), by repeat (first | exact Drawn0.refl _ | apply Drawn0.step)⟩
  · rw [if_neg c2] at H
    have c2b0 : decide (40 < (l0.length : Int)) = false := decide_eq_false c2
    have c2b1 : decide (40 < l0.length) = false := decide_eq_false (by omega)
    clear c2
    have H' := Aside0.mk H
    clear H
    go_enter Try.func17, Try.ntmps17
    go_wp2
    go_loopg [3] k (fun kq v3 w' => ∃ (x3_1 : Int), v3 = .int .i64 x3_1 ∧ Aside0 (licitref24_Few.l0 kq l0 x3_1 = some r) ∧ Aside0 (kq ≤ k) ∧ Drawn0 w w')
    case atStart => exact ⟨(0), (by first | rfl | (simp; done) | (simp [*]; done)), H', ⟨Nat.le_refl _⟩, by repeat (first | exact Drawn0.refl _ | apply Drawn0.step)⟩
    case round =>
      clear H'
      try clear c1
      try clear c2
      try clear c2b0
      try clear c2b1
      try clear p2
      obtain ⟨x3_1, rfl, HA, HK1, ⟨m1, rfl⟩⟩ := hrel
      cases gk with
      | zero => exact absurd HA.out (by simp [licitref24_Few.l0])
      | succ k1 =>
        have H := HA.out
        clear HA
        simp only [licitref24_Few.l0] at H
        by_cases c3 : x3_1 < (l0.length : Int)
        · rw [if_pos c3] at H
          have c3b0 : decide (x3_1 < (l0.length : Int)) = true := decide_eq_true c3
          clear c3
          by_cases c4 : 0 ≤ x3_1
          · rw [if_pos c4] at H
            have c4b0 : decide (0 ≤ x3_1) = true := decide_eq_true c4
            clear c4
            by_cases c5 : (((rd_T41 l0 x3_1).f0).size : Int) > 40
            · rw [if_pos c5] at H
              have c5b0 : decide (40 < (((rd_T41 l0 x3_1).f0).size : Int)) = true := decide_eq_true c5
              have c5b1 : decide (40 < ((rd_T41 l0 x3_1).f0).size) = true := decide_eq_true (by omega)
              clear c5
              obtain rfl := Option.some.inj H
              have p111 : 0 ≤ (x3_1 : Int) := of_decide_eq_true (by first | (with_reducible assumption) | assumption)
              have q111 : x3_1 < (l0.length : Int) := of_decide_eq_true (by first | (with_reducible assumption) | assumption)
              obtain ⟨ad111, e111, hx111_0, hx111_1⟩ := at_T41 HR0.out x3_1 p111 q111
              cases e111
              replace p111 := eq_true p111
              replace q111 := eq_true q111
              go_wp2
              go_ret
              exact ⟨by first | rfl | (simp; done) | (simp [*]; done), by repeat (first | exact Drawn0.refl _ | apply Drawn0.step)⟩
            · rw [if_neg c5] at H
              have c5b0 : decide (40 < (((rd_T41 l0 x3_1).f0).size : Int)) = false := decide_eq_false c5
              have c5b1 : decide (40 < ((rd_T41 l0 x3_1).f0).size) = false := decide_eq_false (by omega)
              clear c5
              have H' := Aside0.mk H
              clear H
              have p111 : 0 ≤ (x3_1 : Int) := of_decide_eq_true (by first | (with_reducible assumption) | assumption)
              have q111 : x3_1 < (l0.length : Int) := of_decide_eq_true (by first | (with_reducible assumption) | assumption)
              obtain ⟨ad111, e111, hx111_0, hx111_1⟩ := at_T41 HR0.out x3_1 p111 q111
              cases e111
              replace p111 := eq_true p111
              replace q111 := eq_true q111
              go_wp2
              go_roundg k1
              case measure => have := HK1.out; omega
              case rel => exact ⟨(wrap64 (x3_1 + 1)), (by first | rfl | (simp; done) | (simp [*]; done)), H', ⟨by have := HK1.out; omega⟩, by repeat (first | exact Drawn0.refl _ | apply Drawn0.step)⟩
          · rw [if_neg c4] at H
            exact absurd H (by simp)
        · rw [if_neg c3] at H
          have c3b0 : decide (x3_1 < (l0.length : Int)) = false := decide_eq_false c3
          clear c3
          obtain rfl := Option.some.inj H
          go_wp2
          go_ret
          exact ⟨by first | rfl | (simp; done) | (simp [*]; done), by repeat (first | exact Drawn0.refl _ | apply Drawn0.step)⟩

/-! ### licitref27_Few: function 11 -/
def licitref27_Few.l0 : Nat → List (S41) → Int → Option (Bool)
  | 0, _, _ => none
  | k + 1, x0, x3 => if x3 < (x0.length : Int) then (if 0 ≤ x3 then (if (((rd_T41 x0 x3).f0).size : Int) > 40 then (some false) else (licitref27_Few.l0 k x0 (wrap64 (x3 + 1)))) else (none)) else (some true)
def licitref27_Few.f (k : Nat) (l0 : List (S41)) : Option (Bool) := if (l0.length : Int) > 14 then (some false) else (licitref27_Few.l0 k l0 0)
theorem licitref27_Few.mono_l : ∀ k, (∀ y0 y1, LeO (licitref27_Few.l0 k y0 y1) (licitref27_Few.l0 (k + 1) y0 y1))
  | 0 => fun _ _ r h => by simp [licitref27_Few.l0] at h
  | k + 1 => by
    have ih0 := licitref27_Few.mono_l k
    · intro y0 y1
      unfold licitref27_Few.l0
      repeat' first
      | (with_reducible exact ih0 _ _)
      | (with_reducible exact LeO.refl _)
      | (with_reducible exact LeO.none _)
      | (with_reducible refine LeO.ite ?_ ?_)
      | (with_reducible refine LeO.bind ?_ (fun _ => ?_))
      | exact ih0 _ _
      | exact LeO.none _
      | refine LeO.ite ?_ ?_
      | refine LeO.bind ?_ (fun _ => ?_)
theorem licitref27_Few.mono : ∀ a0 k, LeO (licitref27_Few.f k a0) (licitref27_Few.f (k + 1) a0) := by
  intro a0 k
  have ih0 := licitref27_Few.mono_l k
  unfold licitref27_Few.f
  repeat' first
      | (with_reducible exact ih0 _ _)
      | (with_reducible exact LeO.refl _)
      | (with_reducible exact LeO.none _)
      | (with_reducible refine LeO.ite ?_ ?_)
      | (with_reducible refine LeO.bind ?_ (fun _ => ?_))
      | exact ih0 _ _
      | exact LeO.none _
      | refine LeO.ite ?_ ?_
      | refine LeO.bind ?_ (fun _ => ?_)
set_option maxHeartbeats 8000000 in
set_option maxRecDepth 100000 in
theorem licitref27_Few.calls (k : Nat) (A0 : Option Addr) (c0 : Nat) (l0 : List (S41)) (r : Bool) (w : World) (hr0 : Kd.C k41 w A0 l0.length l0) (hc0 : l0.length ≤ c0) (h : licitref27_Few.f k l0 = some r) :
    Calls Try.prog 11 #[.slice A0 l0.length c0] w fun e w' => e = .returned (.bool r) ∧ Drawn0 w w' := by
  have HR0 := Aside0.mk hr0
  have HC0 := Aside0.mk hc0
  clear hr0 hc0
  have H : (if (l0.length : Int) > 14 then (some false) else (licitref27_Few.l0 k l0 0)) = some r := h
  clear h
  by_cases c2 : (l0.length : Int) > 14
  · rw [if_pos c2] at H
    have c2b0 : decide (14 < (l0.length : Int)) = true := decide_eq_true c2
    have c2b1 : decide (14 < l0.length) = true := decide_eq_true (by omega)
    clear c2
    obtain rfl := Option.some.inj H
    go_enter Try.func11, Try.ntmps11
    go_wp2
    go_ret
    exact ⟨by first | rfl | (simp; done) | (simp [*]; done), by repeat (first | exact Drawn0.refl _ | apply Drawn0.step)⟩
  · rw [if_neg c2] at H
    have c2b0 : decide (14 < (l0.length : Int)) = false := decide_eq_false c2
    have c2b1 : decide (14 < l0.length) = false := decide_eq_false (by omega)
    clear c2
    have H' := Aside0.mk H
    clear H
    go_enter Try.func11, Try.ntmps11
    go_wp2
    go_loopg [3] k (fun kq v3 w' => ∃ (x3_1 : Int), v3 = .int .i64 x3_1 ∧ Aside0 (licitref27_Few.l0 kq l0 x3_1 = some r) ∧ Aside0 (kq ≤ k) ∧ Drawn0 w w')
    case atStart => exact ⟨(0), (by first | rfl | (simp; done) | (simp [*]; done)), H', ⟨Nat.le_refl _⟩, by repeat (first | exact Drawn0.refl _ | apply Drawn0.step)⟩
    case round =>
      clear H'
      try clear c1
      try clear c2
      try clear c2b0
      try clear c2b1
      try clear p2
      obtain ⟨x3_1, rfl, HA, HK1, ⟨m1, rfl⟩⟩ := hrel
      cases gk with
      | zero => exact absurd HA.out (by simp [licitref27_Few.l0])
      | succ k1 =>
        have H := HA.out
        clear HA
        simp only [licitref27_Few.l0] at H
        by_cases c3 : x3_1 < (l0.length : Int)
        · rw [if_pos c3] at H
          have c3b0 : decide (x3_1 < (l0.length : Int)) = true := decide_eq_true c3
          clear c3
          by_cases c4 : 0 ≤ x3_1
          · rw [if_pos c4] at H
            have c4b0 : decide (0 ≤ x3_1) = true := decide_eq_true c4
            clear c4
            by_cases c5 : (((rd_T41 l0 x3_1).f0).size : Int) > 40
            · rw [if_pos c5] at H
              have c5b0 : decide (40 < (((rd_T41 l0 x3_1).f0).size : Int)) = true := decide_eq_true c5
              have c5b1 : decide (40 < ((rd_T41 l0 x3_1).f0).size) = true := decide_eq_true (by omega)
              clear c5
              obtain rfl := Option.some.inj H
              have p111 : 0 ≤ (x3_1 : Int) := of_decide_eq_true (by first | (with_reducible assumption) | assumption)
              have q111 : x3_1 < (l0.length : Int) := of_decide_eq_true (by first | (with_reducible assumption) | assumption)
              obtain ⟨ad111, e111, hx111_0, hx111_1⟩ := at_T41 HR0.out x3_1 p111 q111
              cases e111
              replace p111 := eq_true p111
              replace q111 := eq_true q111
              go_wp2
              go_ret
              exact ⟨by first | rfl | (simp; done) | (simp [*]; done), by repeat (first | exact Drawn0.refl _ | apply Drawn0.step)⟩
            · rw [if_neg c5] at H
              have c5b0 : decide (40 < (((rd_T41 l0 x3_1).f0).size : Int)) = false := decide_eq_false c5
              have c5b1 : decide (40 < ((rd_T41 l0 x3_1).f0).size) = false := decide_eq_false (by omega)
              clear c5
              have H' := Aside0.mk H
              clear H
              have p111 : 0 ≤ (x3_1 : Int) := of_decide_eq_true (by first | (with_reducible assumption) | assumption)
              have q111 : x3_1 < (l0.length : Int) := of_decide_eq_true (by first | (with_reducible assumption) | assumption)
              obtain ⟨ad111, e111, hx111_0, hx111_1⟩ := at_T41 HR0.out x3_1 p111 q111
              cases e111
              replace p111 := eq_true p111
              replace q111 := eq_true q111
              go_wp2
              go_roundg k1
              case measure => have := HK1.out; omega
              case rel => exact ⟨(wrap64 (x3_1 + 1)), (by first | rfl | (simp; done) | (simp [*]; done)), H', ⟨by have := HK1.out; omega⟩, by repeat (first | exact Drawn0.refl _ | apply Drawn0.step)⟩
          · rw [if_neg c4] at H
            exact absurd H (by simp)
        · rw [if_neg c3] at H
          have c3b0 : decide (x3_1 < (l0.length : Int)) = false := decide_eq_false c3
          clear c3
          obtain rfl := Option.some.inj H
          go_wp2
          go_ret
          exact ⟨by first | rfl | (simp; done) | (simp [*]; done), by repeat (first | exact Drawn0.refl _ | apply Drawn0.step)⟩


end Go.Proofs.Ytbakoigejihnaaa.Ref

/- Reference functions: what they compute and that the code computes it. -/
namespace Go.Proofs.Ytbakoigejihnaaa.Ref
open Go.RowKit Go.Proofs.YtbakoigejihnaaaW.PrintWords Go.Proofs.YtbakoigejihnaaaW.PrintLast Go.Proofs.YtbakoigejihnaaaW.PrintMore
attribute [local go_sem] max2_int min2_int max_two min_two max_three min_three max_four min_four   -- for this text's walks alone
set_option linter.unusedVariables false
set_option linter.unusedSimpArgs false

/-! ### licitref27_at: function 39 -/
mutual
def licitref27_at.j0 : Nat → List (S41) → List (S41) → Int → Bool → Option (Bool)
  | 0, _, _, _, _ => none
  | k + 1, x0, x1, x2, x18 => if x18 = true then (some false) else (licitref27_at.l0 k x0 x1 x2 0)
def licitref27_at.l0 : Nat → List (S41) → List (S41) → Int → Int → Option (Bool)
  | 0, _, _, _, _ => none
  | k + 1, x0, x1, x2, x7 => if x7 < (x1.length : Int) then (if 0 ≤ (wrap64 (x2 + x7)) then (if (wrap64 (x2 + x7)) < (x0.length : Int) then (if 0 ≤ x7 then (if ((rd_T41 x0 (wrap64 (x2 + x7))).f0).toList = ((rd_T41 x1 x7).f0).toList then (licitref27_at.l0 k x0 x1 x2 (wrap64 (x7 + 1))) else (some false)) else (none)) else (none)) else (none)) else (some true)
end
def licitref27_at.f (k : Nat) (l0 : List (S41)) (l1 : List (S41)) (a2 : Int) : Option (Bool) := if a2 < 0 then (licitref27_at.j0 k l0 l1 a2 true) else (licitref27_at.j0 k l0 l1 a2 (decide ((wrap64 (a2 + (l1.length : Int))) > (l0.length : Int))))
theorem licitref27_at.mono_l : ∀ k, (∀ y0 y1 y2 y3, LeO (licitref27_at.j0 k y0 y1 y2 y3) (licitref27_at.j0 (k + 1) y0 y1 y2 y3)) ∧ (∀ y0 y1 y2 y3, LeO (licitref27_at.l0 k y0 y1 y2 y3) (licitref27_at.l0 (k + 1) y0 y1 y2 y3))
  | 0 => ⟨fun _ _ _ _ r h => by simp [licitref27_at.j0] at h, fun _ _ _ _ r h => by simp [licitref27_at.l0] at h⟩
  | k + 1 => by
    obtain ⟨ih0, ih1⟩ := licitref27_at.mono_l k
    refine ⟨?_, ?_⟩
    · intro y0 y1 y2 y3
      unfold licitref27_at.j0
      repeat' first
      | (with_reducible exact ih0 _ _ _ _)
      | (with_reducible exact ih1 _ _ _ _)
      | (with_reducible exact LeO.refl _)
      | (with_reducible exact LeO.none _)
      | (with_reducible refine LeO.ite ?_ ?_)
      | (with_reducible refine LeO.bind ?_ (fun _ => ?_))
      | exact ih0 _ _ _ _
      | exact ih1 _ _ _ _
      | exact LeO.none _
      | refine LeO.ite ?_ ?_
      | refine LeO.bind ?_ (fun _ => ?_)
    · intro y0 y1 y2 y3
      unfold licitref27_at.l0
      repeat' first
      | (with_reducible exact ih0 _ _ _ _)
      | (with_reducible exact ih1 _ _ _ _)
      | (with_reducible exact LeO.refl _)
      | (with_reducible exact LeO.none _)
      | (with_reducible refine LeO.ite ?_ ?_)
      | (with_reducible refine LeO.bind ?_ (fun _ => ?_))
      | exact ih0 _ _ _ _
      | exact ih1 _ _ _ _
      | exact LeO.none _
      | refine LeO.ite ?_ ?_
      | refine LeO.bind ?_ (fun _ => ?_)
theorem licitref27_at.mono : ∀ a0 a1 a2 k, LeO (licitref27_at.f k a0 a1 a2) (licitref27_at.f (k + 1) a0 a1 a2) := by
  intro a0 a1 a2 k
  obtain ⟨ih0, ih1⟩ := licitref27_at.mono_l k
  unfold licitref27_at.f
  repeat' first
      | (with_reducible exact ih0 _ _ _ _)
      | (with_reducible exact ih1 _ _ _ _)
      | (with_reducible exact LeO.refl _)
      | (with_reducible exact LeO.none _)
      | (with_reducible refine LeO.ite ?_ ?_)
      | (with_reducible refine LeO.bind ?_ (fun _ => ?_))
      | exact ih0 _ _ _ _
      | exact ih1 _ _ _ _
      | exact LeO.none _
      | refine LeO.ite ?_ ?_
      | refine LeO.bind ?_ (fun _ => ?_)
set_option maxHeartbeats 8000000 in
set_option maxRecDepth 100000 in
theorem licitref27_at.calls (k : Nat) (A0 : Option Addr) (c0 : Nat) (l0 : List (S41)) (A1 : Option Addr) (c1 : Nat) (l1 : List (S41)) (a2 : Int) (r : Bool) (w : World) (hr0 : Kd.C k41 w A0 l0.length l0) (hc0 : l0.length ≤ c0) (hr1 : Kd.C k41 w A1 l1.length l1) (hc1 : l1.length ≤ c1) (h : licitref27_at.f k l0 l1 a2 = some r) :
    Calls Try.prog 39 #[.slice A0 l0.length c0, .slice A1 l1.length c1, .int .i64 a2] w fun e w' => e = .returned (.bool r) ∧ Drawn0 w w' := by
  have HR0 := Aside0.mk hr0
  have HC0 := Aside0.mk hc0
  clear hr0 hc0
  have HR1 := Aside0.mk hr1
  have HC1 := Aside0.mk hc1
  clear hr1 hc1
  have H : (if a2 < 0 then (licitref27_at.j0 k l0 l1 a2 true) else (licitref27_at.j0 k l0 l1 a2 (decide ((wrap64 (a2 + (l1.length : Int))) > (l0.length : Int))))) = some r := h
  clear h
  have HC4 := Aside0.mk H
  clear H
  go_enter Try.func39, Try.ntmps39
  go_upto_region 1 with (fail)
  repeat (go_quiet (fail); go_upto_region 1 with (fail))
  go_cut [18] (fun v18 wc => ∃ (kq : Nat) (x18_3 : Bool), v18 = .bool x18_3 ∧ Aside0 (licitref27_at.j0 kq l0 l1 a2 x18_3 = some r) ∧ Aside0 (kq ≤ k) ∧ Drawn0 w wc)
  case first =>
    have H := HC4.out
    clear HC4
    by_cases c5 : a2 < 0
    · rw [if_pos c5] at H
      have c5b0 : decide (a2 < 0) = true := decide_eq_true c5
      clear c5
      (first | rw [c5b0] | (simp only [i64_w, i32_w]; rw [c5b0]) | skip)
      have H' := Aside0.mk H
      clear H
      go_wp2
      repeat (go_quiet (fail); try go_wp2)
      go_meet
      case rel => exact ⟨_, (true), (by first | rfl | (simp; done) | (simp [*]; done)), H', ⟨by first | omega | exact Nat.le_refl _⟩, by repeat (first | exact Drawn0.refl _ | apply Drawn0.step)⟩
    · rw [if_neg c5] at H
      have c5b0 : decide (a2 < 0) = false := decide_eq_false c5
      clear c5
      (first | rw [c5b0] | (simp only [i64_w, i32_w]; rw [c5b0]) | skip)
      have H' := Aside0.mk H
      clear H
      go_wp2
      repeat (go_quiet (fail); try go_wp2)
      go_meet
      case rel => exact ⟨_, (decide ((wrap64 (a2 + (l1.length : Int))) > (l0.length : Int))), (by first | rfl | (simp; done) | (simp [*]; done)), H', ⟨by first | omega | exact Nat.le_refl _⟩, by repeat (first | exact Drawn0.refl _ | apply Drawn0.step)⟩
  case rest =>
    clear HC4
    try clear c1
    try clear p2
    try clear c3
    try clear c5
    try clear c5b0
    obtain ⟨kq, x18_3, rfl, HA, HJ3, ⟨mc3, rfl⟩⟩ := hcut
    cases kq with
    | zero => exact absurd HA.out (by simp [licitref27_at.j0])
    | succ kj3 =>
      have H := HA.out
      clear HA
      simp only [licitref27_at.j0] at H
      by_cases c6 : x18_3 = true
      · subst c6
        have H1 : (some false) = some r := by rw [if_pos rfl] at H; exact H
        clear H
        have H := H1
        clear H1
        obtain rfl := Option.some.inj H
        go_wp2
        repeat (go_quiet (fail); try go_wp2)
        go_ret
        exact ⟨by first | rfl | (simp; done) | (simp [*]; done), by repeat (first | exact Drawn0.refl _ | apply Drawn0.step)⟩
      · replace c6 := Bool.eq_false_iff.mpr c6
        subst c6
        have H1 : (licitref27_at.l0 kj3 l0 l1 a2 0) = some r := by rw [if_neg (show ¬ (false = true) by decide)] at H; exact H
        clear H
        have H := H1
        clear H1
        have H' := Aside0.mk H
        clear H
        go_wp2
        repeat (go_quiet (fail); try go_wp2)
        go_loopg [7] kj3 (fun kq v7 w' => ∃ (x7_2 : Int), v7 = .int .i64 x7_2 ∧ Aside0 (licitref27_at.l0 kq l0 l1 a2 x7_2 = some r) ∧ Aside0 (kq ≤ kj3) ∧ Drawn0 w w')
        case atStart => exact ⟨(0), (by first | rfl | (simp; done) | (simp [*]; done)), H', ⟨Nat.le_refl _⟩, by repeat (first | exact Drawn0.refl _ | apply Drawn0.step)⟩
        case round =>
          clear H'
          try clear c1
          try clear p2
          try clear c3
          try clear c5
          try clear c5b0
          try clear c6
          try clear p6
          try clear p2
          obtain ⟨x7_2, rfl, HA, HK2, ⟨m2, rfl⟩⟩ := hrel
          cases gk with
          | zero => exact absurd HA.out (by simp [licitref27_at.l0])
          | succ k2 =>
            have H := HA.out
            clear HA
            simp only [licitref27_at.l0] at H
            by_cases c7 : x7_2 < (l1.length : Int)
            · rw [if_pos c7] at H
              have c7b0 : decide (x7_2 < (l1.length : Int)) = true := decide_eq_true c7
              clear c7
              obtain ⟨ji8, hji8⟩ : ∃ j_ : Int, (wrap64 (a2 + x7_2)) = j_ := ⟨_, rfl⟩
              replace H : (if 0 ≤ (ji8) then (if (ji8) < (l0.length : Int) then (if 0 ≤ x7_2 then (if ((rd_T41 l0 (ji8)).f0).toList = ((rd_T41 l1 x7_2).f0).toList then (licitref27_at.l0 k2 l0 l1 a2 (wrap64 (x7_2 + 1))) else (some false)) else (none)) else (none)) else (none)) = some r := by first | (rw [hji8] at H; exact H) | (simp only [hji8] at H ⊢; exact H)
              have hji8w : (IntKind.i64.wrap (a2 + x7_2)) = ji8 := (i64_w _).trans hji8
              by_cases c9 : 0 ≤ (ji8)
              · rw [if_pos c9] at H
                have c9b0 : decide (0 ≤ (ji8)) = true := decide_eq_true c9
                clear c9
                by_cases c10 : (ji8) < (l0.length : Int)
                · rw [if_pos c10] at H
                  have c10b0 : decide ((ji8) < (l0.length : Int)) = true := decide_eq_true c10
                  clear c10
                  by_cases c11 : 0 ≤ x7_2
                  · rw [if_pos c11] at H
                    have c11b0 : decide (0 ≤ x7_2) = true := decide_eq_true c11
                    clear c11
                    by_cases c12 : ((rd_T41 l0 (ji8)).f0).toList = ((rd_T41 l1 x7_2).f0).toList
                    · rw [if_pos c12] at H
                      have c12b0 : (((rd_T41 l0 (ji8)).f0).toList == ((rd_T41 l1 x7_2).f0).toList) = true := beq_iff_eq.mpr c12
                      have c12b1 : (((rd_T41 l0 (ji8)).f0).toList != ((rd_T41 l1 x7_2).f0).toList) = false := bne_eq_false_iff_eq.mpr c12
                      clear c12
                      have H' := Aside0.mk H
                      clear H
                      have p112 : 0 ≤ ((ji8) : Int) := of_decide_eq_true (by first | (with_reducible assumption) | assumption)
                      have q112 : (ji8) < (l0.length : Int) := of_decide_eq_true (by first | (with_reducible assumption) | assumption)
                      obtain ⟨ad112, e112, hx112_0, hx112_1⟩ := at_T41 HR0.out (ji8) p112 q112
                      cases e112
                      replace p112 := eq_true p112
                      replace q112 := eq_true q112
                      have p113 : 0 ≤ (x7_2 : Int) := of_decide_eq_true (by first | (with_reducible assumption) | assumption)
                      have q113 : x7_2 < (l1.length : Int) := of_decide_eq_true (by first | (with_reducible assumption) | assumption)
                      obtain ⟨ad113, e113, hx113_0, hx113_1⟩ := at_T41 HR1.out x7_2 p113 q113
                      cases e113
                      replace p113 := eq_true p113
                      replace q113 := eq_true q113
                      go_wp2
                      repeat (go_quiet (fail); try go_wp2)
                      go_roundg k2
                      case measure => have := HJ3.out; have := HK2.out; omega
                      case rel => exact ⟨(wrap64 (x7_2 + 1)), (by first | rfl | (simp; done) | (simp [*]; done)), H', ⟨by have := HJ3.out; have := HK2.out; omega⟩, by repeat (first | exact Drawn0.refl _ | apply Drawn0.step)⟩
                    · rw [if_neg c12] at H
                      have c12b0 : (((rd_T41 l0 (ji8)).f0).toList == ((rd_T41 l1 x7_2).f0).toList) = false := beq_eq_false_iff_ne.mpr c12
                      have c12b1 : (((rd_T41 l0 (ji8)).f0).toList != ((rd_T41 l1 x7_2).f0).toList) = true := bne_iff_ne.mpr c12
                      obtain rfl := Option.some.inj H
                      have p112 : 0 ≤ ((ji8) : Int) := of_decide_eq_true (by first | (with_reducible assumption) | assumption)
                      have q112 : (ji8) < (l0.length : Int) := of_decide_eq_true (by first | (with_reducible assumption) | assumption)
                      obtain ⟨ad112, e112, hx112_0, hx112_1⟩ := at_T41 HR0.out (ji8) p112 q112
                      cases e112
                      replace p112 := eq_true p112
                      replace q112 := eq_true q112
                      have p113 : 0 ≤ (x7_2 : Int) := of_decide_eq_true (by first | (with_reducible assumption) | assumption)
                      have q113 : x7_2 < (l1.length : Int) := of_decide_eq_true (by first | (with_reducible assumption) | assumption)
                      obtain ⟨ad113, e113, hx113_0, hx113_1⟩ := at_T41 HR1.out x7_2 p113 q113
                      cases e113
                      replace p113 := eq_true p113
                      replace q113 := eq_true q113
                      go_wp2
                      repeat (go_quiet (fail); try go_wp2)
                      go_ret
                      exact ⟨by first | rfl | (simp; done) | (simp only [← hji8] <;> (first | rfl | simp)) | (simp [*]; done), by repeat (first | exact Drawn0.refl _ | apply Drawn0.step)⟩
                  · rw [if_neg c11] at H
                    exact absurd H (by simp)
                · rw [if_neg c10] at H
                  exact absurd H (by simp)
              · rw [if_neg c9] at H
                exact absurd H (by simp)
            · rw [if_neg c7] at H
              have c7b0 : decide (x7_2 < (l1.length : Int)) = false := decide_eq_false c7
              clear c7
              obtain rfl := Option.some.inj H
              go_wp2
              repeat (go_quiet (fail); try go_wp2)
              go_ret
              exact ⟨by first | rfl | (simp; done) | (simp [*]; done), by repeat (first | exact Drawn0.refl _ | apply Drawn0.step)⟩

/-! ### licitref27_First: function 24 -/
def licitref27_First.l0 : Nat → List (S41) → List (S41) → Int → Option (Int)
  | 0, _, _, _ => none
  | k + 1, x0, x1, x5 => if (wrap64 (x5 + (x1.length : Int))) ≤ (x0.length : Int) then ((licitref27_at.f k x0 x1 x5).bind fun t114 => (if t114 = true then (some x5) else (licitref27_First.l0 k x0 x1 (wrap64 (x5 + 1))))) else (some (-1))
def licitref27_First.f (k : Nat) (l0 : List (S41)) (l1 : List (S41)) : Option (Int) := licitref27_First.l0 k l0 l1 0
theorem licitref27_First.mono_l : ∀ k, (∀ y0 y1 y2, LeO (licitref27_First.l0 k y0 y1 y2) (licitref27_First.l0 (k + 1) y0 y1 y2))
  | 0 => fun _ _ _ r h => by simp [licitref27_First.l0] at h
  | k + 1 => by
    have ih0 := licitref27_First.mono_l k
    · intro y0 y1 y2
      unfold licitref27_First.l0
      repeat' first
      | (with_reducible exact ih0 _ _ _)
      | (with_reducible exact licitref27_at.mono _ _ _ _)
      | (with_reducible exact LeO.refl _)
      | (with_reducible exact LeO.none _)
      | (with_reducible refine LeO.ite ?_ ?_)
      | (with_reducible refine LeO.bind ?_ (fun _ => ?_))
      | exact ih0 _ _ _
      | exact licitref27_at.mono _ _ _ _
      | exact LeO.none _
      | refine LeO.ite ?_ ?_
      | refine LeO.bind ?_ (fun _ => ?_)
theorem licitref27_First.mono : ∀ a0 a1 k, LeO (licitref27_First.f k a0 a1) (licitref27_First.f (k + 1) a0 a1) := by
  intro a0 a1 k
  have ih0 := licitref27_First.mono_l k
  unfold licitref27_First.f
  repeat' first
      | (with_reducible exact ih0 _ _ _)
      | (with_reducible exact licitref27_at.mono _ _ _ _)
      | (with_reducible exact LeO.refl _)
      | (with_reducible exact LeO.none _)
      | (with_reducible refine LeO.ite ?_ ?_)
      | (with_reducible refine LeO.bind ?_ (fun _ => ?_))
      | exact ih0 _ _ _
      | exact licitref27_at.mono _ _ _ _
      | exact LeO.none _
      | refine LeO.ite ?_ ?_
      | refine LeO.bind ?_ (fun _ => ?_)
set_option maxHeartbeats 8000000 in
set_option maxRecDepth 100000 in
theorem licitref27_First.calls (k : Nat) (A0 : Option Addr) (c0 : Nat) (l0 : List (S41)) (A1 : Option Addr) (c1 : Nat) (l1 : List (S41)) (r : Int) (w : World) (hr0 : Kd.C k41 w A0 l0.length l0) (hc0 : l0.length ≤ c0) (hr1 : Kd.C k41 w A1 l1.length l1) (hc1 : l1.length ≤ c1) (h : licitref27_First.f k l0 l1 = some r) :
    Calls Try.prog 24 #[.slice A0 l0.length c0, .slice A1 l1.length c1] w fun e w' => e = .returned (.int .i64 r) ∧ Drawn0 w w' := by
  have HR0 := Aside0.mk hr0
  have HC0 := Aside0.mk hc0
  clear hr0 hc0
  have HR1 := Aside0.mk hr1
  have HC1 := Aside0.mk hc1
  clear hr1 hc1
  have H : (licitref27_First.l0 k l0 l1 0) = some r := h
  clear h
  have H' := Aside0.mk H
  clear H
  go_enter Try.func24, Try.ntmps24
  go_wp2
  go_loopg [5] k (fun kq v5 w' => ∃ (x5_1 : Int), v5 = .int .i64 x5_1 ∧ Aside0 (licitref27_First.l0 kq l0 l1 x5_1 = some r) ∧ Aside0 (kq ≤ k) ∧ Drawn0 w w')
  case atStart => exact ⟨(0), (by first | rfl | (simp; done) | (simp [*]; done)), H', ⟨Nat.le_refl _⟩, by repeat (first | exact Drawn0.refl _ | apply Drawn0.step)⟩
  case round =>
    clear H'
    try clear c1
    try clear c2
    try clear p2
    obtain ⟨x5_1, rfl, HA, HK1, ⟨m1, rfl⟩⟩ := hrel
    cases gk with
    | zero => exact absurd HA.out (by simp [licitref27_First.l0])
    | succ k1 =>
      have H := HA.out
      clear HA
      simp only [licitref27_First.l0] at H
      by_cases c3 : (wrap64 (x5_1 + (l1.length : Int))) ≤ (l0.length : Int)
      · rw [if_pos c3] at H
        have c3b0 : decide ((wrap64 (x5_1 + (l1.length : Int))) ≤ (l0.length : Int)) = true := decide_eq_true c3
        clear c3
        replace H := Option.bind_eq_some_iff.mp H
        obtain ⟨t114, A40, H⟩ := H
        replace H : (if t114 = true then (some x5_1) else (licitref27_First.l0 k1 l0 l1 (wrap64 (x5_1 + 1)))) = some r := H
        have A4 := Aside0.mk A40
        clear A40
        by_cases c5 : t114 = true
        · subst c5
          have H1 : (some x5_1) = some r := by rw [if_pos rfl] at H; exact H
          clear H
          have H := H1
          clear H1
          obtain rfl := Option.some.inj H
          go_wp2_with (first | ((with_reducible refine gate_callee (f := 39) rfl ?_); refine goesL_ (some 18) rfl rfl Try.func39 (by kernel_rfl) rfl #[.slice A0 l0.length c0, .slice A1 l1.length c1, .int .i64 x5_1] rfl (by (try simp only [List.map_toArray, List.map_cons, List.map_nil]); first | done | rfl | (simp only [List.length_drop, List.length_take]; rfl)) ?_; (with_reducible refine (licitref27_at.calls k1 _ _ l0 _ _ l1 x5_1 true _ ?side1 ?side2 ?side3 ?side4 A4.out).mono ?_); (case side1 => repeat (first | exact HR0.out | (with_reducible refine Kd.C_alloc ?_ _) | (with_reducible refine Kd.C_drewN ?_ _) | (with_reducible refine Kd.C_drew ?_))); (case side2 => exact HC0.out); (case side3 => repeat (first | exact HR1.out | (with_reducible refine Kd.C_alloc ?_ _) | (with_reducible refine Kd.C_drewN ?_ _) | (with_reducible refine Kd.C_drew ?_))); (case side4 => exact HC1.out); rintro e w' ⟨rfl, ⟨nd, rfl⟩⟩; refine ⟨_, rfl, ?_⟩))
          go_ret
          exact ⟨by first | rfl | (simp; done) | (simp [*]; done), by repeat (first | exact Drawn0.refl _ | apply Drawn0.step)⟩
        · replace c5 := Bool.eq_false_iff.mpr c5
          subst c5
          have H1 : (licitref27_First.l0 k1 l0 l1 (wrap64 (x5_1 + 1))) = some r := by rw [if_neg (show ¬ (false = true) by decide)] at H; exact H
          clear H
          have H := H1
          clear H1
          have H' := Aside0.mk H
          clear H
          go_wp2_with (first | ((with_reducible refine gate_callee (f := 39) rfl ?_); refine goesL_ (some 18) rfl rfl Try.func39 (by kernel_rfl) rfl #[.slice A0 l0.length c0, .slice A1 l1.length c1, .int .i64 x5_1] rfl (by (try simp only [List.map_toArray, List.map_cons, List.map_nil]); first | done | rfl | (simp only [List.length_drop, List.length_take]; rfl)) ?_; (with_reducible refine (licitref27_at.calls k1 _ _ l0 _ _ l1 x5_1 false _ ?side1 ?side2 ?side3 ?side4 A4.out).mono ?_); (case side1 => repeat (first | exact HR0.out | (with_reducible refine Kd.C_alloc ?_ _) | (with_reducible refine Kd.C_drewN ?_ _) | (with_reducible refine Kd.C_drew ?_))); (case side2 => exact HC0.out); (case side3 => repeat (first | exact HR1.out | (with_reducible refine Kd.C_alloc ?_ _) | (with_reducible refine Kd.C_drewN ?_ _) | (with_reducible refine Kd.C_drew ?_))); (case side4 => exact HC1.out); rintro e w' ⟨rfl, ⟨nd, rfl⟩⟩; refine ⟨_, rfl, ?_⟩))
          go_roundg k1
          case measure => have := HK1.out; omega
          case rel => exact ⟨(wrap64 (x5_1 + 1)), (by first | rfl | (simp; done) | (simp [*]; done)), H', ⟨by have := HK1.out; omega⟩, by repeat (first | exact Drawn0.refl _ | apply Drawn0.step)⟩
      · rw [if_neg c3] at H
        have c3b0 : decide ((wrap64 (x5_1 + (l1.length : Int))) ≤ (l0.length : Int)) = false := decide_eq_false c3
        clear c3
        obtain rfl := Option.some.inj H
        go_wp2
        go_ret
        exact ⟨by first | rfl | (simp; done) | (simp [*]; done), by repeat (first | exact Drawn0.refl _ | apply Drawn0.step)⟩

/-! ### licitref27_Count: function 26 -/
def licitref27_Count.l0 : Nat → List (S41) → List (S41) → Int → Int → Option (Int)
  | 0, _, _, _, _ => none
  | k + 1, x0, x1, x5, x6 => if (wrap64 (x6 + (x1.length : Int))) ≤ (x0.length : Int) then ((licitref27_at.f k x0 x1 x6).bind fun t115 => (if t115 = true then (licitref27_Count.l0 k x0 x1 (wrap64 (x5 + 1)) (wrap64 (x6 + 1))) else (licitref27_Count.l0 k x0 x1 x5 (wrap64 (x6 + 1))))) else (some x5)
def licitref27_Count.f (k : Nat) (l0 : List (S41)) (l1 : List (S41)) : Option (Int) := licitref27_Count.l0 k l0 l1 0 0
theorem licitref27_Count.mono_l : ∀ k, (∀ y0 y1 y2 y3, LeO (licitref27_Count.l0 k y0 y1 y2 y3) (licitref27_Count.l0 (k + 1) y0 y1 y2 y3))
  | 0 => fun _ _ _ _ r h => by simp [licitref27_Count.l0] at h
  | k + 1 => by
    have ih0 := licitref27_Count.mono_l k
    · intro y0 y1 y2 y3
      unfold licitref27_Count.l0
      repeat' first
      | (with_reducible exact ih0 _ _ _ _)
      | (with_reducible exact licitref27_at.mono _ _ _ _)
      | (with_reducible exact LeO.refl _)
      | (with_reducible exact LeO.none _)
      | (with_reducible refine LeO.ite ?_ ?_)
      | (with_reducible refine LeO.bind ?_ (fun _ => ?_))
      | exact ih0 _ _ _ _
      | exact licitref27_at.mono _ _ _ _
      | exact LeO.none _
      | refine LeO.ite ?_ ?_
      | refine LeO.bind ?_ (fun _ => ?_)
theorem licitref27_Count.mono : ∀ a0 a1 k, LeO (licitref27_Count.f k a0 a1) (licitref27_Count.f (k + 1) a0 a1) := by
  intro a0 a1 k
  have ih0 := licitref27_Count.mono_l k
  unfold licitref27_Count.f
  repeat' first
      | (with_reducible exact ih0 _ _ _ _)
      | (with_reducible exact licitref27_at.mono _ _ _ _)
      | (with_reducible exact LeO.refl _)
      | (with_reducible exact LeO.none _)
      | (with_reducible refine LeO.ite ?_ ?_)
      | (with_reducible refine LeO.bind ?_ (fun _ => ?_))
      | exact ih0 _ _ _ _
      | exact licitref27_at.mono _ _ _ _
      | exact LeO.none _
      | refine LeO.ite ?_ ?_
      | refine LeO.bind ?_ (fun _ => ?_)
set_option maxHeartbeats 8000000 in
set_option maxRecDepth 100000 in
theorem licitref27_Count.calls (k : Nat) (A0 : Option Addr) (c0 : Nat) (l0 : List (S41)) (A1 : Option Addr) (c1 : Nat) (l1 : List (S41)) (r : Int) (w : World) (hr0 : Kd.C k41 w A0 l0.length l0) (hc0 : l0.length ≤ c0) (hr1 : Kd.C k41 w A1 l1.length l1) (hc1 : l1.length ≤ c1) (h : licitref27_Count.f k l0 l1 = some r) :
    Calls Try.prog 26 #[.slice A0 l0.length c0, .slice A1 l1.length c1] w fun e w' => e = .returned (.int .i64 r) ∧ Drawn0 w w' := by
  have HR0 := Aside0.mk hr0
  have HC0 := Aside0.mk hc0
  clear hr0 hc0
  have HR1 := Aside0.mk hr1
  have HC1 := Aside0.mk hc1
  clear hr1 hc1
  have H : (licitref27_Count.l0 k l0 l1 0 0) = some r := h
  clear h
  have H' := Aside0.mk H
  clear H
  go_enter Try.func26, Try.ntmps26
  go_wp2
  go_loopg [5, 6] k (fun kq v5 v6 w' => ∃ (x5_1 : Int) (x6_1 : Int), v5 = .int .i64 x5_1 ∧ v6 = .int .i64 x6_1 ∧ Aside0 (licitref27_Count.l0 kq l0 l1 x5_1 x6_1 = some r) ∧ Aside0 (kq ≤ k) ∧ Drawn0 w w')
  case atStart => exact ⟨(0), (0), (by first | rfl | (simp; done) | (simp [*]; done)), (by first | rfl | (simp; done) | (simp [*]; done)), H', ⟨Nat.le_refl _⟩, by repeat (first | exact Drawn0.refl _ | apply Drawn0.step)⟩
  case round =>
    clear H'
    try clear c1
    try clear c2
    try clear p2
    obtain ⟨x5_1, x6_1, rfl, rfl, HA, HK1, ⟨m1, rfl⟩⟩ := hrel
    cases gk with
    | zero => exact absurd HA.out (by simp [licitref27_Count.l0])
    | succ k1 =>
      have H := HA.out
      clear HA
      simp only [licitref27_Count.l0] at H
      by_cases c3 : (wrap64 (x6_1 + (l1.length : Int))) ≤ (l0.length : Int)
      · rw [if_pos c3] at H
        have c3b0 : decide ((wrap64 (x6_1 + (l1.length : Int))) ≤ (l0.length : Int)) = true := decide_eq_true c3
        clear c3
        replace H := Option.bind_eq_some_iff.mp H
        obtain ⟨t115, A40, H⟩ := H
        replace H : (if t115 = true then (licitref27_Count.l0 k1 l0 l1 (wrap64 (x5_1 + 1)) (wrap64 (x6_1 + 1))) else (licitref27_Count.l0 k1 l0 l1 x5_1 (wrap64 (x6_1 + 1)))) = some r := H
        have A4 := Aside0.mk A40
        clear A40
        by_cases c5 : t115 = true
        · subst c5
          have H1 : (licitref27_Count.l0 k1 l0 l1 (wrap64 (x5_1 + 1)) (wrap64 (x6_1 + 1))) = some r := by rw [if_pos rfl] at H; exact H
          clear H
          have H := H1
          clear H1
          have H' := Aside0.mk H
          clear H
          go_wp2_with (first | ((with_reducible refine gate_callee (f := 39) rfl ?_); refine goesL_ (some 19) rfl rfl Try.func39 (by kernel_rfl) rfl #[.slice A0 l0.length c0, .slice A1 l1.length c1, .int .i64 x6_1] rfl (by (try simp only [List.map_toArray, List.map_cons, List.map_nil]); first | done | rfl | (simp only [List.length_drop, List.length_take]; rfl)) ?_; (with_reducible refine (licitref27_at.calls k1 _ _ l0 _ _ l1 x6_1 true _ ?side1 ?side2 ?side3 ?side4 A4.out).mono ?_); (case side1 => repeat (first | exact HR0.out | (with_reducible refine Kd.C_alloc ?_ _) | (with_reducible refine Kd.C_drewN ?_ _) | (with_reducible refine Kd.C_drew ?_))); (case side2 => exact HC0.out); (case side3 => repeat (first | exact HR1.out | (with_reducible refine Kd.C_alloc ?_ _) | (with_reducible refine Kd.C_drewN ?_ _) | (with_reducible refine Kd.C_drew ?_))); (case side4 => exact HC1.out); rintro e w' ⟨rfl, ⟨nd, rfl⟩⟩; refine ⟨_, rfl, ?_⟩))
          go_roundg k1
          case measure => have := HK1.out; omega
          case rel => exact ⟨(wrap64 (x5_1 + 1)), (wrap64 (x6_1 + 1)), (by first | rfl | (simp; done) | (simp [*]; done)), (by first | rfl | (simp; done) | (simp [*]; done)), H', ⟨by have := HK1.out; omega⟩, by repeat (first | exact Drawn0.refl _ | apply Drawn0.step)⟩
        · replace c5 := Bool.eq_false_iff.mpr c5
          subst c5
          have H1 : (licitref27_Count.l0 k1 l0 l1 x5_1 (wrap64 (x6_1 + 1))) = some r := by rw [if_neg (show ¬ (false = true) by decide)] at H; exact H
          clear H
          have H := H1
          clear H1
          have H' := Aside0.mk H
          clear H
          go_wp2_with (first | ((with_reducible refine gate_callee (f := 39) rfl ?_); refine goesL_ (some 19) rfl rfl Try.func39 (by kernel_rfl) rfl #[.slice A0 l0.length c0, .slice A1 l1.length c1, .int .i64 x6_1] rfl (by (try simp only [List.map_toArray, List.map_cons, List.map_nil]); first | done | rfl | (simp only [List.length_drop, List.length_take]; rfl)) ?_; (with_reducible refine (licitref27_at.calls k1 _ _ l0 _ _ l1 x6_1 false _ ?side1 ?side2 ?side3 ?side4 A4.out).mono ?_); (case side1 => repeat (first | exact HR0.out | (with_reducible refine Kd.C_alloc ?_ _) | (with_reducible refine Kd.C_drewN ?_ _) | (with_reducible refine Kd.C_drew ?_))); (case side2 => exact HC0.out); (case side3 => repeat (first | exact HR1.out | (with_reducible refine Kd.C_alloc ?_ _) | (with_reducible refine Kd.C_drewN ?_ _) | (with_reducible refine Kd.C_drew ?_))); (case side4 => exact HC1.out); rintro e w' ⟨rfl, ⟨nd, rfl⟩⟩; refine ⟨_, rfl, ?_⟩))
          go_roundg k1
          case measure => have := HK1.out; omega
          case rel => exact ⟨(x5_1), (wrap64 (x6_1 + 1)), (by first | rfl | (simp; done) | (simp [*]; done)), (by first | rfl | (simp; done) | (simp [*]; done)), H', ⟨by have := HK1.out; omega⟩, by repeat (first | exact Drawn0.refl _ | apply Drawn0.step)⟩
      · rw [if_neg c3] at H
        have c3b0 : decide ((wrap64 (x6_1 + (l1.length : Int))) ≤ (l0.length : Int)) = false := decide_eq_false c3
        clear c3
        obtain rfl := Option.some.inj H
        go_wp2
        go_ret
        exact ⟨by first | rfl | (simp; done) | (simp [*]; done), by repeat (first | exact Drawn0.refl _ | apply Drawn0.step)⟩


end Go.Proofs.Ytbakoigejihnaaa.Ref

/- Reference functions: what they compute and that the code computes it. -/
namespace Go.Proofs.Ytbakoigejihnaaa.Ref
open Go.RowKit Go.Proofs.YtbakoigejihnaaaW.PrintWords Go.Proofs.YtbakoigejihnaaaW.PrintLast Go.Proofs.YtbakoigejihnaaaW.PrintMore
attribute [local go_sem] max2_int min2_int max_two min_two max_three min_three max_four min_four   -- for this text's walks alone
set_option linter.unusedVariables false
set_option linter.unusedSimpArgs false

/-! ### licitref27_alike: function 36 -/
def licitref27_alike.l0 : Nat → List (S41) → List (S41) → List (S41) → Int → Option (Bool)
  | 0, _, _, _, _ => none
  | k + 1, x0, x1, x2, x7 => if x7 ≤ (x0.length : Int) then ((licitref27_at.f k x0 x1 (wrap64 (x7 - (x1.length : Int)))).bind fun t114 => ((licitref27_at.f k x0 x2 (wrap64 (x7 - (x2.length : Int)))).bind fun t115 => (if (t114 != t115) = true then (some false) else (licitref27_alike.l0 k x0 x1 x2 (wrap64 (x7 + 1)))))) else (some true)
def licitref27_alike.f (k : Nat) (l0 : List (S41)) (l1 : List (S41)) (l2 : List (S41)) : Option (Bool) := licitref27_alike.l0 k l0 l1 l2 0
theorem licitref27_alike.mono_l : ∀ k, (∀ y0 y1 y2 y3, LeO (licitref27_alike.l0 k y0 y1 y2 y3) (licitref27_alike.l0 (k + 1) y0 y1 y2 y3))
  | 0 => fun _ _ _ _ r h => by simp [licitref27_alike.l0] at h
  | k + 1 => by
    have ih0 := licitref27_alike.mono_l k
    · intro y0 y1 y2 y3
      unfold licitref27_alike.l0
      repeat' first
      | (with_reducible exact ih0 _ _ _ _)
      | (with_reducible exact licitref27_at.mono _ _ _ _)
      | (with_reducible exact LeO.refl _)
      | (with_reducible exact LeO.none _)
      | (with_reducible refine LeO.ite ?_ ?_)
      | (with_reducible refine LeO.bind ?_ (fun _ => ?_))
      | exact ih0 _ _ _ _
      | exact licitref27_at.mono _ _ _ _
      | exact LeO.none _
      | refine LeO.ite ?_ ?_
      | refine LeO.bind ?_ (fun _ => ?_)
theorem licitref27_alike.mono : ∀ a0 a1 a2 k, LeO (licitref27_alike.f k a0 a1 a2) (licitref27_alike.f (k + 1) a0 a1 a2) := by
  intro a0 a1 a2 k
  have ih0 := licitref27_alike.mono_l k
  unfold licitref27_alike.f
  repeat' first
      | (with_reducible exact ih0 _ _ _ _)
      | (with_reducible exact licitref27_at.mono _ _ _ _)
      | (with_reducible exact LeO.refl _)
      | (with_reducible exact LeO.none _)
      | (with_reducible refine LeO.ite ?_ ?_)
      | (with_reducible refine LeO.bind ?_ (fun _ => ?_))
      | exact ih0 _ _ _ _
      | exact licitref27_at.mono _ _ _ _
      | exact LeO.none _
      | refine LeO.ite ?_ ?_
      | refine LeO.bind ?_ (fun _ => ?_)
set_option maxHeartbeats 8000000 in
set_option maxRecDepth 100000 in
theorem licitref27_alike.calls (k : Nat) (A0 : Option Addr) (c0 : Nat) (l0 : List (S41)) (A1 : Option Addr) (c1 : Nat) (l1 : List (S41)) (A2 : Option Addr) (c2 : Nat) (l2 : List (S41)) (r : Bool) (w : World) (hr0 : Kd.C k41 w A0 l0.length l0) (hc0 : l0.length ≤ c0) (hr1 : Kd.C k41 w A1 l1.length l1) (hc1 : l1.length ≤ c1) (hr2 : Kd.C k41 w A2 l2.length l2) (hc2 : l2.length ≤ c2) (h : licitref27_alike.f k l0 l1 l2 = some r) :
    Calls Try.prog 36 #[.slice A0 l0.length c0, .slice A1 l1.length c1, .slice A2 l2.length c2] w fun e w' => e = .returned (.bool r) ∧ Drawn0 w w' := by
  have HR0 := Aside0.mk hr0
  have HC0 := Aside0.mk hc0
  clear hr0 hc0
  have HR1 := Aside0.mk hr1
  have HC1 := Aside0.mk hc1
  clear hr1 hc1
  have HR2 := Aside0.mk hr2
  have HC2 := Aside0.mk hc2
  clear hr2 hc2
  have H : (licitref27_alike.l0 k l0 l1 l2 0) = some r := h
  clear h
  have H' := Aside0.mk H
  clear H
  go_enter Try.func36, Try.ntmps36
  go_wp2
  go_loopg [7] k (fun kq v7 w' => ∃ (x7_1 : Int), v7 = .int .i64 x7_1 ∧ Aside0 (licitref27_alike.l0 kq l0 l1 l2 x7_1 = some r) ∧ Aside0 (kq ≤ k) ∧ Drawn0 w w')
  case atStart => exact ⟨(0), (by first | rfl | (simp; done) | (simp [*]; done)), H', ⟨Nat.le_refl _⟩, by repeat (first | exact Drawn0.refl _ | apply Drawn0.step)⟩
  case round =>
    clear H'
    try clear c1
    try clear c2
    try clear p2
    try clear c3
    obtain ⟨x7_1, rfl, HA, HK1, ⟨m1, rfl⟩⟩ := hrel
    cases gk with
    | zero => exact absurd HA.out (by simp [licitref27_alike.l0])
    | succ k1 =>
      have H := HA.out
      clear HA
      simp only [licitref27_alike.l0] at H
      by_cases c4 : x7_1 ≤ (l0.length : Int)
      · rw [if_pos c4] at H
        have c4b0 : decide (x7_1 ≤ (l0.length : Int)) = true := decide_eq_true c4
        clear c4
        replace H := Option.bind_eq_some_iff.mp H
        obtain ⟨t114, A50, H⟩ := H
        replace H : ((licitref27_at.f k1 l0 l2 (wrap64 (x7_1 - (l2.length : Int)))).bind fun t115 => (if (t114 != t115) = true then (some false) else (licitref27_alike.l0 k1 l0 l1 l2 (wrap64 (x7_1 + 1))))) = some r := H
        have A5 := Aside0.mk A50
        clear A50
        replace H := Option.bind_eq_some_iff.mp H
        obtain ⟨t115, A60, H⟩ := H
        replace H : (if (t114 != t115) = true then (some false) else (licitref27_alike.l0 k1 l0 l1 l2 (wrap64 (x7_1 + 1)))) = some r := H
        have A6 := Aside0.mk A60
        clear A60
        by_cases c7 : (t114 != t115) = true
        · rw [if_pos c7] at H
          have c7b0 : (t114 != t115) = true := c7
          (try (have c7b1 : decide (t114 = t115) = false := by simpa using c7))
          (try (have c7b2 : (t114 == t115) = false := by simpa using c7))
          (try (have c7b3 : ¬ (t114 = t115) := by simpa using c7))
          clear c7
          obtain rfl := Option.some.inj H
          go_wp2_with (first | ((with_reducible refine gate_callee (f := 39) rfl ?_); refine goesL_ (some 20) rfl rfl Try.func39 (by kernel_rfl) rfl #[.slice A0 l0.length c0, .slice A1 l1.length c1, .int .i64 (wrap64 (x7_1 - (l1.length : Int)))] rfl (by (try simp only [List.map_toArray, List.map_cons, List.map_nil]); first | done | rfl | (simp only [List.length_drop, List.length_take]; rfl)) ?_; (with_reducible refine (licitref27_at.calls k1 _ _ l0 _ _ l1 (wrap64 (x7_1 - (l1.length : Int))) t114 _ ?side1 ?side2 ?side3 ?side4 A5.out).mono ?_); (case side1 => repeat (first | exact HR0.out | (with_reducible refine Kd.C_alloc ?_ _) | (with_reducible refine Kd.C_drewN ?_ _) | (with_reducible refine Kd.C_drew ?_))); (case side2 => exact HC0.out); (case side3 => repeat (first | exact HR1.out | (with_reducible refine Kd.C_alloc ?_ _) | (with_reducible refine Kd.C_drewN ?_ _) | (with_reducible refine Kd.C_drew ?_))); (case side4 => exact HC1.out); rintro e w' ⟨rfl, ⟨nd, rfl⟩⟩; refine ⟨_, rfl, ?_⟩) | ((with_reducible refine gate_callee (f := 39) rfl ?_); refine goesL_ (some 27) rfl rfl Try.func39 (by kernel_rfl) rfl #[.slice A0 l0.length c0, .slice A2 l2.length c2, .int .i64 (wrap64 (x7_1 - (l2.length : Int)))] rfl (by (try simp only [List.map_toArray, List.map_cons, List.map_nil]); first | done | rfl | (simp only [List.length_drop, List.length_take]; rfl)) ?_; (with_reducible refine (licitref27_at.calls k1 _ _ l0 _ _ l2 (wrap64 (x7_1 - (l2.length : Int))) t115 _ ?side1 ?side2 ?side3 ?side4 A6.out).mono ?_); (case side1 => repeat (first | exact HR0.out | (with_reducible refine Kd.C_alloc ?_ _) | (with_reducible refine Kd.C_drewN ?_ _) | (with_reducible refine Kd.C_drew ?_))); (case side2 => exact HC0.out); (case side3 => repeat (first | exact HR2.out | (with_reducible refine Kd.C_alloc ?_ _) | (with_reducible refine Kd.C_drewN ?_ _) | (with_reducible refine Kd.C_drew ?_))); (case side4 => exact HC2.out); rintro e w' ⟨rfl, ⟨nd, rfl⟩⟩; refine ⟨_, rfl, ?_⟩))
          go_ret
          exact ⟨by first | rfl | (simp; done) | (simp [*]; done), by repeat (first | exact Drawn0.refl _ | apply Drawn0.step)⟩
        · rw [if_neg c7] at H
          have c7b0 : (t114 != t115) = false := by simpa using c7
          (try (have c7b1 : decide (t114 = t115) = true := by simpa using c7))
          (try (have c7b2 : (t114 == t115) = true := by simpa using c7))
          clear c7
          have H' := Aside0.mk H
          clear H
          go_wp2_with (first | ((with_reducible refine gate_callee (f := 39) rfl ?_); refine goesL_ (some 20) rfl rfl Try.func39 (by kernel_rfl) rfl #[.slice A0 l0.length c0, .slice A1 l1.length c1, .int .i64 (wrap64 (x7_1 - (l1.length : Int)))] rfl (by (try simp only [List.map_toArray, List.map_cons, List.map_nil]); first | done | rfl | (simp only [List.length_drop, List.length_take]; rfl)) ?_; (with_reducible refine (licitref27_at.calls k1 _ _ l0 _ _ l1 (wrap64 (x7_1 - (l1.length : Int))) t114 _ ?side1 ?side2 ?side3 ?side4 A5.out).mono ?_); (case side1 => repeat (first | exact HR0.out | (with_reducible refine Kd.C_alloc ?_ _) | (with_reducible refine Kd.C_drewN ?_ _) | (with_reducible refine Kd.C_drew ?_))); (case side2 => exact HC0.out); (case side3 => repeat (first | exact HR1.out | (with_reducible refine Kd.C_alloc ?_ _) | (with_reducible refine Kd.C_drewN ?_ _) | (with_reducible refine Kd.C_drew ?_))); (case side4 => exact HC1.out); rintro e w' ⟨rfl, ⟨nd, rfl⟩⟩; refine ⟨_, rfl, ?_⟩) | ((with_reducible refine gate_callee (f := 39) rfl ?_); refine goesL_ (some 27) rfl rfl Try.func39 (by kernel_rfl) rfl #[.slice A0 l0.length c0, .slice A2 l2.length c2, .int .i64 (wrap64 (x7_1 - (l2.length : Int)))] rfl (by (try simp only [List.map_toArray, List.map_cons, List.map_nil]); first | done | rfl | (simp only [List.length_drop, List.length_take]; rfl)) ?_; (with_reducible refine (licitref27_at.calls k1 _ _ l0 _ _ l2 (wrap64 (x7_1 - (l2.length : Int))) t115 _ ?side1 ?side2 ?side3 ?side4 A6.out).mono ?_); (case side1 => repeat (first | exact HR0.out | (with_reducible refine Kd.C_alloc ?_ _) | (with_reducible refine Kd.C_drewN ?_ _) | (with_reducible refine Kd.C_drew ?_))); (case side2 => exact HC0.out); (case side3 => repeat (first | exact HR2.out | (with_reducible refine Kd.C_alloc ?_ _) | (with_reducible refine Kd.C_drewN ?_ _) | (with_reducible refine Kd.C_drew ?_))); (case side4 => exact HC2.out); rintro e w' ⟨rfl, ⟨nd, rfl⟩⟩; refine ⟨_, rfl, ?_⟩))
          go_roundg k1
          case measure => have := HK1.out; omega
          case rel => exact ⟨(wrap64 (x7_1 + 1)), (by first | rfl | (simp; done) | (simp [*]; done)), H', ⟨by have := HK1.out; omega⟩, by repeat (first | exact Drawn0.refl _ | apply Drawn0.step)⟩
      · rw [if_neg c4] at H
        have c4b0 : decide (x7_1 ≤ (l0.length : Int)) = false := decide_eq_false c4
        clear c4
        obtain rfl := Option.some.inj H
        go_wp2
        go_ret
        exact ⟨by first | rfl | (simp; done) | (simp [*]; done), by repeat (first | exact Drawn0.refl _ | apply Drawn0.step)⟩

/-! ### licitref27_States: function 14 -/
mutual
def licitref27_States.l0 : Nat → List (S41) → List (List (S41)) → Int → Option (Int)
  | 0, _, _, _ => none
  | k + 1, x0, x3, x4 => if x4 < (x0.length : Int) then (licitref27_States.l1 k x0 x3 x4 (wrap64 (x4 + 1))) else (some (x3.length : Int))
def licitref27_States.l1 : Nat → List (S41) → List (List (S41)) → Int → Int → Option (Int)
  | 0, _, _, _, _ => none
  | k + 1, x0, x3, x4, x5 => if x5 ≤ (x0.length : Int) then (licitref27_States.l2 k x0 x3 x4 x5 false 0) else (licitref27_States.l0 k x0 x3 (wrap64 (x4 + 1)))
def licitref27_States.l2 : Nat → List (S41) → List (List (S41)) → Int → Int → Bool → Int → Option (Int)
  | 0, _, _, _, _, _, _ => none
  | k + 1, x0, x3, x4, x5, x6, x7 => if x7 < (x3.length : Int) then (if x6 = true then (licitref27_States.l2 k x0 x3 x4 x5 true (wrap64 (x7 + 1))) else (if 0 ≤ x7 then (if 0 ≤ x4 then (if x4 ≤ x5 then (if x5 ≤ (x0.length : Int) then ((licitref27_alike.f k x0 (rd_L3 x3 x7) ((x0.take (x5 : Int).toNat).drop (x4 : Int).toNat)).bind fun t128 => (licitref27_States.l2 k x0 x3 x4 x5 t128 (wrap64 (x7 + 1)))) else (none)) else (none)) else (none)) else (none))) else (if x6 = true then (licitref27_States.l1 k x0 x3 x4 (wrap64 (x5 + 1))) else (if 0 ≤ x4 then (if x4 ≤ x5 then (if x5 ≤ (x0.length : Int) then (if x3.length < 5864062014805 then (licitref27_States.l1 k x0 (x3 ++ [((x0.take (x5 : Int).toNat).drop (x4 : Int).toNat)]) x4 (wrap64 (x5 + 1))) else (none)) else (none)) else (none)) else (none)))
end
def licitref27_States.f (k : Nat) (l0 : List (S41)) : Option (Int) := licitref27_States.l0 k l0 (([(([] : List (S41)))] : List (List (S41)))) 0
theorem licitref27_States.mono_l : ∀ k, (∀ y0 y1 y2, LeO (licitref27_States.l0 k y0 y1 y2) (licitref27_States.l0 (k + 1) y0 y1 y2)) ∧ (∀ y0 y1 y2 y3, LeO (licitref27_States.l1 k y0 y1 y2 y3) (licitref27_States.l1 (k + 1) y0 y1 y2 y3)) ∧ (∀ y0 y1 y2 y3 y4 y5, LeO (licitref27_States.l2 k y0 y1 y2 y3 y4 y5) (licitref27_States.l2 (k + 1) y0 y1 y2 y3 y4 y5))
  | 0 => ⟨fun _ _ _ r h => by simp [licitref27_States.l0] at h, fun _ _ _ _ r h => by simp [licitref27_States.l1] at h, fun _ _ _ _ _ _ r h => by simp [licitref27_States.l2] at h⟩
  | k + 1 => by
    obtain ⟨ih0, ih1, ih2⟩ := licitref27_States.mono_l k
    refine ⟨?_, ?_, ?_⟩
    · intro y0 y1 y2
      unfold licitref27_States.l0
      repeat' first
      | (with_reducible exact ih0 _ _ _)
      | (with_reducible exact ih1 _ _ _ _)
      | (with_reducible exact ih2 _ _ _ _ _ _)
      | (with_reducible exact licitref27_alike.mono _ _ _ _)
      | (with_reducible exact LeO.refl _)
      | (with_reducible exact LeO.none _)
      | (with_reducible refine LeO.ite ?_ ?_)
      | (with_reducible refine LeO.bind ?_ (fun _ => ?_))
      | exact ih0 _ _ _
      | exact ih1 _ _ _ _
      | exact ih2 _ _ _ _ _ _
      | exact licitref27_alike.mono _ _ _ _
      | exact LeO.none _
      | refine LeO.ite ?_ ?_
      | refine LeO.bind ?_ (fun _ => ?_)
    · intro y0 y1 y2 y3
      unfold licitref27_States.l1
      repeat' first
      | (with_reducible exact ih0 _ _ _)
      | (with_reducible exact ih1 _ _ _ _)
      | (with_reducible exact ih2 _ _ _ _ _ _)
      | (with_reducible exact licitref27_alike.mono _ _ _ _)
      | (with_reducible exact LeO.refl _)
      | (with_reducible exact LeO.none _)
      | (with_reducible refine LeO.ite ?_ ?_)
      | (with_reducible refine LeO.bind ?_ (fun _ => ?_))
      | exact ih0 _ _ _
      | exact ih1 _ _ _ _
      | exact ih2 _ _ _ _ _ _
      | exact licitref27_alike.mono _ _ _ _
      | exact LeO.none _
      | refine LeO.ite ?_ ?_
      | refine LeO.bind ?_ (fun _ => ?_)
    · intro y0 y1 y2 y3 y4 y5
      unfold licitref27_States.l2
      repeat' first
      | (with_reducible exact ih0 _ _ _)
      | (with_reducible exact ih1 _ _ _ _)
      | (with_reducible exact ih2 _ _ _ _ _ _)
      | (with_reducible exact licitref27_alike.mono _ _ _ _)
      | (with_reducible exact LeO.refl _)
      | (with_reducible exact LeO.none _)
      | (with_reducible refine LeO.ite ?_ ?_)
      | (with_reducible refine LeO.bind ?_ (fun _ => ?_))
      | exact ih0 _ _ _
      | exact ih1 _ _ _ _
      | exact ih2 _ _ _ _ _ _
      | exact licitref27_alike.mono _ _ _ _
      | exact LeO.none _
      | refine LeO.ite ?_ ?_
      | refine LeO.bind ?_ (fun _ => ?_)
theorem licitref27_States.mono : ∀ a0 k, LeO (licitref27_States.f k a0) (licitref27_States.f (k + 1) a0) := by
  intro a0 k
  obtain ⟨ih0, ih1, ih2⟩ := licitref27_States.mono_l k
  unfold licitref27_States.f
  repeat' first
      | (with_reducible exact ih0 _ _ _)
      | (with_reducible exact ih1 _ _ _ _)
      | (with_reducible exact ih2 _ _ _ _ _ _)
      | (with_reducible exact licitref27_alike.mono _ _ _ _)
      | (with_reducible exact LeO.refl _)
      | (with_reducible exact LeO.none _)
      | (with_reducible refine LeO.ite ?_ ?_)
      | (with_reducible refine LeO.bind ?_ (fun _ => ?_))
      | exact ih0 _ _ _
      | exact ih1 _ _ _ _
      | exact ih2 _ _ _ _ _ _
      | exact licitref27_alike.mono _ _ _ _
      | exact LeO.none _
      | refine LeO.ite ?_ ?_
      | refine LeO.bind ?_ (fun _ => ?_)
set_option maxHeartbeats 8000000 in
set_option maxRecDepth 100000 in
theorem licitref27_States.calls (k : Nat) (P0_ : Nat → Prop) (A0 : Option Addr) (c0 : Nat) (l0 : List (S41)) (r : Int) (w : World) (hs0 : Kd.V k41 41 w w.heap.size (fun k_ => P0_ k_) (.slice A0 l0.length c0) l0) (h : licitref27_States.f k l0 = some r) :
    Calls Try.prog 14 #[.slice A0 l0.length c0] w fun e w' => e = .returned (.int .i64 r) ∧ Below w.heap.size w w' := by
  have HO0 := Aside0.mk (show Kd.V k41 41 w w.heap.size (fun k_ => (P0_ k_ ∨ w.heap.size ≤ k_)) (.slice A0 l0.length c0) l0 from Kd.V_mono hs0 (fun k_ hk => .inl hk))
  have HB := Aside0.mk (Below.refl w.heap.size w)
  have H : (licitref27_States.l0 k l0 (([(([] : List (S41)))] : List (List (S41)))) 0) = some r := h
  clear h
  obtain ⟨y116, hy116⟩ : ∃ y_ : List (S41), y_ = (([] : List (S41))) := ⟨_, rfl⟩
  replace H : (licitref27_States.l0 k l0 (([y116] : List (List (S41)))) 0) = some r := by first | (rw [hy116]; with_reducible exact H) | (have H2_ := (Option.bind_some _ _).symm.trans H; rw [hy116]; with_reducible exact H2_) | (have H2_ := (Option.bind_some _ _).symm.trans H; with_reducible exact H2_) | with_reducible exact H | (rw [hy116]; exact H) | exact H
  have Ny116 := Aside0.mk hy116
  clear hy116
  obtain ⟨y119, hy119⟩ : ∃ y_ : List (List (S41)), y_ = (([y116] : List (List (S41)))) := ⟨_, rfl⟩
  replace H : (licitref27_States.l0 k l0 y119 0) = some r := by first | (rw [hy119]; with_reducible exact H) | (have H2_ := (Option.bind_some _ _).symm.trans H; rw [hy119]; with_reducible exact H2_) | (have H2_ := (Option.bind_some _ _).symm.trans H; with_reducible exact H2_) | with_reducible exact H | (rw [hy119]; exact H) | exact H
  have Ny119 := Aside0.mk hy119
  clear hy119
  have H' := Aside0.mk H
  clear H
  go_enter Try.func14, Try.ntmps14
  go_wp2_with (first | ((with_reducible refine gate_dst (N := 8) rfl ?_); refine Kd.R_lit k41 _ 41 ?hg (N := 8) ?hd (xs := ([] : List (S41))) (inner := []) (ok := fun _ => True) (okp := fun _ => True) ?hr ?hp (fun _ hk => hk) trivial (Below.refl _ _) (Nat.le_refl _) (by simp) ?_; (case hd => rfl); (case hg => rfl); (case hr => first | (go_simp; done) | (go_simp; rfl)); (case hp => exact (Reps.none _ _)); intro v117 w2 ho3 hb hg_ hnew_; clear hg_ hnew_; (first | rw [← Ny116.out] at ho3 | (simp only [Int.reduceToNat] at ho3; rw [← Ny116.out] at ho3)); have n0_ := Aside0.mk (Kd.V_elder' (by (with_reducible repeat (first | apply Kd.V_alloc | apply Kd.V_drewN | apply Kd.V_drew)); exact HO0.out) (Kd.R_base ho3) hb); have n1_ := Aside0.mk (Kd.R_lower (Kd.R_newM (M := fun k_ => (w.heap.size ≤ k_)) ho3 (below_size (by repeat (first | (with_reducible first | exact HB.out | apply below_alloc | apply pw_below_drewN | apply below_drew1) | exact HB.out))) (fun k_ h_ => h_)) (below_size (by repeat (first | (with_reducible first | exact HB.out | apply below_alloc | apply pw_below_drewN | apply below_drew1) | exact HB.out)))); have n2_ := Aside0.mk (below_step (by repeat (first | (with_reducible first | exact HB.out | apply below_alloc | apply pw_below_drewN | apply below_drew1) | exact HB.out)) hb); clear HO0; clear HB; have HO0 := n0_; have HO118 := n1_; have HB := n2_; clear n0_ n1_ n2_; clear hb ho3; obtain ⟨Ao4, co4, eo4⟩ := Kd.R_slice HO118.out; subst eo4) | ((with_reducible refine gate_dst (N := 9) rfl ?_); refine Kd.N_lit (Kd.slice 41 k41) _ 22 ?hg (N' := 9) ?hd (xs := ([y116] : List (List (S41)))) (inner := [.slice Ao4 y116.length co4]) (ok := (fun k_ => (P0_ k_ ∨ w.heap.size ≤ k_))) (okp := (fun k_ => (P0_ k_ ∨ w.heap.size ≤ k_))) ?hr ?hp (fun _ hk => hk) ((show ∀ k_, w2.heap.size ≤ k_ → (fun k_ => (P0_ k_ ∨ w.heap.size ≤ k_)) k_ from fun k_ hk => (.inr (Nat.le_trans (below_size (by repeat (first | (with_reducible first | exact HB.out | apply below_alloc | apply pw_below_drewN | apply below_drew1) | exact HB.out))) hk))) _ (Nat.le_refl _)) (Below.refl _ _) (Nat.le_refl _) (by simp) ?_; (case hd => rfl); (case hg => rfl); (case hr => first | (go_simp; done) | (go_simp; rfl)); (case hp => exact (Reps.one (show Kd.FK (Kd.slice 41 k41) _ _ y116 [.slice Ao4 y116.length co4] from (Kd.FK_slice_mk (Kd.R_reads' (Kd.R_mono (ok' := (fun k_ => (P0_ k_ ∨ w.heap.size ≤ k_))) (HO118.out) (fun k_ hk => (.inr (hk.1))))).2.1 (Kd.R_F (Kd.R_mono (ok' := (fun k_ => (P0_ k_ ∨ w.heap.size ≤ k_))) (HO118.out) (fun k_ hk => (.inr (hk.1))))))) (Reps.none _ _))); intro v120 w5 ho6 hb hg_ hnew_; clear hg_ hnew_; (first | rw [← Ny119.out] at ho6 | (simp only [Int.reduceToNat] at ho6; rw [← Ny119.out] at ho6)); have n0_ := Aside0.mk (Kd.V_elder' (by (with_reducible repeat (first | apply Kd.V_alloc | apply Kd.V_drewN | apply Kd.V_drew)); exact HO0.out) (Kd.N_base ho6) hb); have n1_ := Aside0.mk (Kd.N_lower ho6 (below_size (by repeat (first | (with_reducible first | exact HB.out | apply below_alloc | apply pw_below_drewN | apply below_drew1) | exact HB.out)))); have n2_ := Aside0.mk (below_step (by repeat (first | (with_reducible first | exact HB.out | apply below_alloc | apply pw_below_drewN | apply below_drew1) | exact HB.out)) hb); clear HO0; clear HB; clear HO118; have HO0 := n0_; have HO121 := n1_; have HB := n2_; clear n0_ n1_ n2_; clear hb ho6))
  repeat (go_quiet (first | ((with_reducible refine gate_dst (N := 8) rfl ?_); refine Kd.R_lit k41 _ 41 ?hg (N := 8) ?hd (xs := ([] : List (S41))) (inner := []) (ok := fun _ => True) (okp := fun _ => True) ?hr ?hp (fun _ hk => hk) trivial (Below.refl _ _) (Nat.le_refl _) (by simp) ?_; (case hd => rfl); (case hg => rfl); (case hr => first | (go_simp; done) | (go_simp; rfl)); (case hp => exact (Reps.none _ _)); intro v117 w2 ho3 hb hg_ hnew_; clear hg_ hnew_; (first | rw [← Ny116.out] at ho3 | (simp only [Int.reduceToNat] at ho3; rw [← Ny116.out] at ho3)); have n0_ := Aside0.mk (Kd.V_elder' (by (with_reducible repeat (first | apply Kd.V_alloc | apply Kd.V_drewN | apply Kd.V_drew)); exact HO0.out) (Kd.R_base ho3) hb); have n1_ := Aside0.mk (Kd.R_lower (Kd.R_newM (M := fun k_ => (w.heap.size ≤ k_)) ho3 (below_size (by repeat (first | (with_reducible first | exact HB.out | apply below_alloc | apply pw_below_drewN | apply below_drew1) | exact HB.out))) (fun k_ h_ => h_)) (below_size (by repeat (first | (with_reducible first | exact HB.out | apply below_alloc | apply pw_below_drewN | apply below_drew1) | exact HB.out)))); have n2_ := Aside0.mk (below_step (by repeat (first | (with_reducible first | exact HB.out | apply below_alloc | apply pw_below_drewN | apply below_drew1) | exact HB.out)) hb); clear HO0; clear HB; have HO0 := n0_; have HO118 := n1_; have HB := n2_; clear n0_ n1_ n2_; clear hb ho3; obtain ⟨Ao4, co4, eo4⟩ := Kd.R_slice HO118.out; subst eo4) | ((with_reducible refine gate_dst (N := 9) rfl ?_); refine Kd.N_lit (Kd.slice 41 k41) _ 22 ?hg (N' := 9) ?hd (xs := ([y116] : List (List (S41)))) (inner := [.slice Ao4 y116.length co4]) (ok := (fun k_ => (P0_ k_ ∨ w.heap.size ≤ k_))) (okp := (fun k_ => (P0_ k_ ∨ w.heap.size ≤ k_))) ?hr ?hp (fun _ hk => hk) ((show ∀ k_, w2.heap.size ≤ k_ → (fun k_ => (P0_ k_ ∨ w.heap.size ≤ k_)) k_ from fun k_ hk => (.inr (Nat.le_trans (below_size (by repeat (first | (with_reducible first | exact HB.out | apply below_alloc | apply pw_below_drewN | apply below_drew1) | exact HB.out))) hk))) _ (Nat.le_refl _)) (Below.refl _ _) (Nat.le_refl _) (by simp) ?_; (case hd => rfl); (case hg => rfl); (case hr => first | (go_simp; done) | (go_simp; rfl)); (case hp => exact (Reps.one (show Kd.FK (Kd.slice 41 k41) _ _ y116 [.slice Ao4 y116.length co4] from (Kd.FK_slice_mk (Kd.R_reads' (Kd.R_mono (ok' := (fun k_ => (P0_ k_ ∨ w.heap.size ≤ k_))) (HO118.out) (fun k_ hk => (.inr (hk.1))))).2.1 (Kd.R_F (Kd.R_mono (ok' := (fun k_ => (P0_ k_ ∨ w.heap.size ≤ k_))) (HO118.out) (fun k_ hk => (.inr (hk.1))))))) (Reps.none _ _))); intro v120 w5 ho6 hb hg_ hnew_; clear hg_ hnew_; (first | rw [← Ny119.out] at ho6 | (simp only [Int.reduceToNat] at ho6; rw [← Ny119.out] at ho6)); have n0_ := Aside0.mk (Kd.V_elder' (by (with_reducible repeat (first | apply Kd.V_alloc | apply Kd.V_drewN | apply Kd.V_drew)); exact HO0.out) (Kd.N_base ho6) hb); have n1_ := Aside0.mk (Kd.N_lower ho6 (below_size (by repeat (first | (with_reducible first | exact HB.out | apply below_alloc | apply pw_below_drewN | apply below_drew1) | exact HB.out)))); have n2_ := Aside0.mk (below_step (by repeat (first | (with_reducible first | exact HB.out | apply below_alloc | apply pw_below_drewN | apply below_drew1) | exact HB.out)) hb); clear HO0; clear HB; clear HO118; have HO0 := n0_; have HO121 := n1_; have HB := n2_; clear n0_ n1_ n2_; clear hb ho6)); try go_wp2_with (first | ((with_reducible refine gate_dst (N := 8) rfl ?_); refine Kd.R_lit k41 _ 41 ?hg (N := 8) ?hd (xs := ([] : List (S41))) (inner := []) (ok := fun _ => True) (okp := fun _ => True) ?hr ?hp (fun _ hk => hk) trivial (Below.refl _ _) (Nat.le_refl _) (by simp) ?_; (case hd => rfl); (case hg => rfl); (case hr => first | (go_simp; done) | (go_simp; rfl)); (case hp => exact (Reps.none _ _)); intro v117 w2 ho3 hb hg_ hnew_; clear hg_ hnew_; (first | rw [← Ny116.out] at ho3 | (simp only [Int.reduceToNat] at ho3; rw [← Ny116.out] at ho3)); have n0_ := Aside0.mk (Kd.V_elder' (by (with_reducible repeat (first | apply Kd.V_alloc | apply Kd.V_drewN | apply Kd.V_drew)); exact HO0.out) (Kd.R_base ho3) hb); have n1_ := Aside0.mk (Kd.R_lower (Kd.R_newM (M := fun k_ => (w.heap.size ≤ k_)) ho3 (below_size (by repeat (first | (with_reducible first | exact HB.out | apply below_alloc | apply pw_below_drewN | apply below_drew1) | exact HB.out))) (fun k_ h_ => h_)) (below_size (by repeat (first | (with_reducible first | exact HB.out | apply below_alloc | apply pw_below_drewN | apply below_drew1) | exact HB.out)))); have n2_ := Aside0.mk (below_step (by repeat (first | (with_reducible first | exact HB.out | apply below_alloc | apply pw_below_drewN | apply below_drew1) | exact HB.out)) hb); clear HO0; clear HB; have HO0 := n0_; have HO118 := n1_; have HB := n2_; clear n0_ n1_ n2_; clear hb ho3; obtain ⟨Ao4, co4, eo4⟩ := Kd.R_slice HO118.out; subst eo4) | ((with_reducible refine gate_dst (N := 9) rfl ?_); refine Kd.N_lit (Kd.slice 41 k41) _ 22 ?hg (N' := 9) ?hd (xs := ([y116] : List (List (S41)))) (inner := [.slice Ao4 y116.length co4]) (ok := (fun k_ => (P0_ k_ ∨ w.heap.size ≤ k_))) (okp := (fun k_ => (P0_ k_ ∨ w.heap.size ≤ k_))) ?hr ?hp (fun _ hk => hk) ((show ∀ k_, w2.heap.size ≤ k_ → (fun k_ => (P0_ k_ ∨ w.heap.size ≤ k_)) k_ from fun k_ hk => (.inr (Nat.le_trans (below_size (by repeat (first | (with_reducible first | exact HB.out | apply below_alloc | apply pw_below_drewN | apply below_drew1) | exact HB.out))) hk))) _ (Nat.le_refl _)) (Below.refl _ _) (Nat.le_refl _) (by simp) ?_; (case hd => rfl); (case hg => rfl); (case hr => first | (go_simp; done) | (go_simp; rfl)); (case hp => exact (Reps.one (show Kd.FK (Kd.slice 41 k41) _ _ y116 [.slice Ao4 y116.length co4] from (Kd.FK_slice_mk (Kd.R_reads' (Kd.R_mono (ok' := (fun k_ => (P0_ k_ ∨ w.heap.size ≤ k_))) (HO118.out) (fun k_ hk => (.inr (hk.1))))).2.1 (Kd.R_F (Kd.R_mono (ok' := (fun k_ => (P0_ k_ ∨ w.heap.size ≤ k_))) (HO118.out) (fun k_ hk => (.inr (hk.1))))))) (Reps.none _ _))); intro v120 w5 ho6 hb hg_ hnew_; clear hg_ hnew_; (first | rw [← Ny119.out] at ho6 | (simp only [Int.reduceToNat] at ho6; rw [← Ny119.out] at ho6)); have n0_ := Aside0.mk (Kd.V_elder' (by (with_reducible repeat (first | apply Kd.V_alloc | apply Kd.V_drewN | apply Kd.V_drew)); exact HO0.out) (Kd.N_base ho6) hb); have n1_ := Aside0.mk (Kd.N_lower ho6 (below_size (by repeat (first | (with_reducible first | exact HB.out | apply below_alloc | apply pw_below_drewN | apply below_drew1) | exact HB.out)))); have n2_ := Aside0.mk (below_step (by repeat (first | (with_reducible first | exact HB.out | apply below_alloc | apply pw_below_drewN | apply below_drew1) | exact HB.out)) hb); clear HO0; clear HB; clear HO118; have HO0 := n0_; have HO121 := n1_; have HB := n2_; clear n0_ n1_ n2_; clear hb ho6)))
  go_loopg [3, 4] k (fun kq v3 v4 w' => ∃ (x3_1 : List (List (S41))) (x4_1 : Int), v4 = .int .i64 x4_1 ∧ Aside0 (licitref27_States.l0 kq l0 x3_1 x4_1 = some r) ∧ Aside0 (kq ≤ k) ∧ Aside0 (Kd.V k41 41 w' w.heap.size (fun k_ => (P0_ k_ ∨ w.heap.size ≤ k_) ∧ some k_ ≠ (v3 : Value).ownBlock) (.slice A0 l0.length c0) l0) ∧ Aside0 (Kd.N (Kd.slice 41 k41) 22 w' w.heap.size (fun k_ => (P0_ k_ ∨ w.heap.size ≤ k_)) v3 x3_1) ∧ Aside0 (Below w.heap.size w w'))
  case atStart => exact ⟨(y119), (0), (by first | rfl | (simp; done) | (simp [*]; done)), H', ⟨Nat.le_refl _⟩, ⟨by (with_reducible repeat (first | apply Kd.V_alloc | apply Kd.V_drewN | apply Kd.V_drew)); exact Kd.V_mono HO0.out (fun _ hk => ⟨hk.1.1, hk.2⟩)⟩, ⟨by (with_reducible repeat (first | apply Kd.N_alloc | apply Kd.N_drewN | apply Kd.N_drew)); exact HO121.out⟩, ⟨by repeat (first | (with_reducible first | exact HB.out | apply below_alloc | apply pw_below_drewN | apply below_drew1) | exact HB.out)⟩⟩
  case round =>
    clear H'
    try clear c1
    try clear p2
    obtain ⟨x3_1, x4_1, rfl, HA, HK1, HO_0, HO_3, HB⟩ := hrel
    cases gk with
    | zero => exact absurd HA.out (by simp [licitref27_States.l0])
    | succ k1 =>
      have H := HA.out
      clear HA
      simp only [licitref27_States.l0] at H
      by_cases c7 : x4_1 < (l0.length : Int)
      · rw [if_pos c7] at H
        have c7b0 : decide (x4_1 < (l0.length : Int)) = true := decide_eq_true c7
        clear c7
        have H' := Aside0.mk H
        clear H
        go_wp2
        repeat (go_quiet (fail); try go_wp2)
        go_loopg [3, 5] k1 (fun kq v3 v5 w' => ∃ (x3_2 : List (List (S41))) (x5_2 : Int), v5 = .int .i64 x5_2 ∧ Aside0 (licitref27_States.l1 kq l0 x3_2 x4_1 x5_2 = some r) ∧ Aside0 (kq ≤ k1) ∧ Aside0 (Kd.V k41 41 w' w.heap.size (fun k_ => (P0_ k_ ∨ w.heap.size ≤ k_) ∧ some k_ ≠ (v3 : Value).ownBlock) (.slice A0 l0.length c0) l0) ∧ Aside0 (Kd.N (Kd.slice 41 k41) 22 w' w.heap.size (fun k_ => (P0_ k_ ∨ w.heap.size ≤ k_)) v3 x3_2) ∧ Aside0 (Below w.heap.size w w'))
        case atStart => exact ⟨(x3_1), (wrap64 (x4_1 + 1)), (by first | rfl | (simp; done) | (simp [*]; done)), H', ⟨Nat.le_refl _⟩, ⟨by (with_reducible repeat (first | apply Kd.V_alloc | apply Kd.V_drewN | apply Kd.V_drew)); exact HO_0.out⟩, ⟨by (with_reducible repeat (first | apply Kd.N_alloc | apply Kd.N_drewN | apply Kd.N_drew)); exact HO_3.out⟩, ⟨by repeat (first | (with_reducible first | exact HB.out | apply below_alloc | apply pw_below_drewN | apply below_drew1) | exact HB.out)⟩⟩
        case round =>
          clear H'
          try clear c1
          try clear p2
          try clear p6
          try clear c7
          try clear c7b0
          try clear p2
          obtain ⟨x3_2, x5_2, rfl, HA, HK2, HO_0, HO_3, HB⟩ := hrel
          cases gk with
          | zero => exact absurd HA.out (by simp [licitref27_States.l1])
          | succ k2 =>
            have H := HA.out
            clear HA
            simp only [licitref27_States.l1] at H
            by_cases c8 : x5_2 ≤ (l0.length : Int)
            · rw [if_pos c8] at H
              have c8b0 : decide (x5_2 ≤ (l0.length : Int)) = true := decide_eq_true c8
              clear c8
              have H' := Aside0.mk H
              clear H
              go_wp2
              repeat (go_quiet (fail); try go_wp2)
              go_loopg [6, 7] k2 (fun kq v6 v7 w' => ∃ (x6_3 : Bool) (x7_3 : Int), v6 = .bool x6_3 ∧ v7 = .int .i64 x7_3 ∧ Aside0 (licitref27_States.l2 kq l0 x3_2 x4_1 x5_2 x6_3 x7_3 = some r) ∧ Aside0 (kq ≤ k2) ∧ Aside0 (Kd.V k41 41 w' w.heap.size (fun k_ => (P0_ k_ ∨ w.heap.size ≤ k_) ∧ some k_ ≠ (u3 : Value).ownBlock) (.slice A0 l0.length c0) l0) ∧ Aside0 (Kd.N (Kd.slice 41 k41) 22 w' w.heap.size (fun k_ => (P0_ k_ ∨ w.heap.size ≤ k_)) u3 x3_2) ∧ Aside0 (Below w.heap.size w w'))
              case atStart => exact ⟨(false), (0), (by first | rfl | (simp; done) | (simp [*]; done)), (by first | rfl | (simp; done) | (simp [*]; done)), H', ⟨Nat.le_refl _⟩, ⟨by (with_reducible repeat (first | apply Kd.V_alloc | apply Kd.V_drewN | apply Kd.V_drew)); exact HO_0.out⟩, ⟨by (with_reducible repeat (first | apply Kd.N_alloc | apply Kd.N_drewN | apply Kd.N_drew)); exact HO_3.out⟩, ⟨by repeat (first | (with_reducible first | exact HB.out | apply below_alloc | apply pw_below_drewN | apply below_drew1) | exact HB.out)⟩⟩
              case round =>
                clear H'
                try clear c1
                try clear p2
                try clear p6
                try clear c7
                try clear c7b0
                try clear c8
                try clear c8b0
                try clear p2
                try clear p6
                obtain ⟨x6_3, x7_3, rfl, rfl, HA, HK3, HO_0, HO_3, HB⟩ := hrel
                cases gk with
                | zero => exact absurd HA.out (by simp [licitref27_States.l2])
                | succ k3 =>
                  have H := HA.out
                  clear HA
                  simp only [licitref27_States.l2] at H
                  by_cases c9 : x7_3 < (x3_2.length : Int)
                  · rw [if_pos c9] at H
                    have c9b0 : decide (x7_3 < (x3_2.length : Int)) = true := decide_eq_true c9
                    clear c9
                    by_cases c10 : x6_3 = true
                    · subst c10
                      have H1 : (licitref27_States.l2 k3 l0 x3_2 x4_1 x5_2 true (wrap64 (x7_3 + 1))) = some r := by rw [if_pos rfl] at H; exact H
                      clear H
                      have H := H1
                      clear H1
                      have H' := Aside0.mk H
                      clear H
                      obtain ⟨Ao11, co11, eo11⟩ := Kd.N_slice HO_3.out
                      subst eo11
                      go_wp2
                      repeat (go_quiet (fail); try go_wp2)
                      go_roundg k3
                      case measure => have := HK1.out; have := HK2.out; have := HK3.out; omega
                      case rel => exact ⟨(true), (wrap64 (x7_3 + 1)), (by first | rfl | (simp; done) | (simp [*]; done)), (by first | rfl | (simp; done) | (simp [*]; done)), H', ⟨by have := HK1.out; have := HK2.out; have := HK3.out; omega⟩, ⟨by (with_reducible repeat (first | apply Kd.V_alloc | apply Kd.V_drewN | apply Kd.V_drew)); exact HO_0.out⟩, ⟨by (with_reducible repeat (first | apply Kd.N_alloc | apply Kd.N_drewN | apply Kd.N_drew)); exact HO_3.out⟩, ⟨by repeat (first | (with_reducible first | exact HB.out | apply below_alloc | apply pw_below_drewN | apply below_drew1) | exact HB.out)⟩⟩
                    · replace c10 := Bool.eq_false_iff.mpr c10
                      subst c10
                      have H1 : (if 0 ≤ x7_3 then (if 0 ≤ x4_1 then (if x4_1 ≤ x5_2 then (if x5_2 ≤ (l0.length : Int) then ((licitref27_alike.f k3 l0 (rd_L3 x3_2 x7_3) ((l0.take (x5_2 : Int).toNat).drop (x4_1 : Int).toNat)).bind fun t128 => (licitref27_States.l2 k3 l0 x3_2 x4_1 x5_2 t128 (wrap64 (x7_3 + 1)))) else (none)) else (none)) else (none)) else (none)) = some r := by rw [if_neg (show ¬ (false = true) by decide)] at H; exact H
                      clear H
                      have H := H1
                      clear H1
                      by_cases c12 : 0 ≤ x7_3
                      · rw [if_pos c12] at H
                        have c12b0 : decide (0 ≤ x7_3) = true := decide_eq_true c12
                        clear c12
                        by_cases c13 : 0 ≤ x4_1
                        · rw [if_pos c13] at H
                          have c13b0 := eq_true c13
                          have c13b1 : decide (0 ≤ x4_1) = true := decide_eq_true c13
                          clear c13
                          by_cases c14 : x4_1 ≤ x5_2
                          · rw [if_pos c14] at H
                            have c14b0 := eq_true c14
                            have c14b1 : decide (x4_1 ≤ x5_2) = true := decide_eq_true c14
                            clear c14
                            by_cases c15 : x5_2 ≤ (l0.length : Int)
                            · rw [if_pos c15] at H
                              have c15b0 := eq_true c15
                              have c15b1 : decide (x5_2 ≤ (l0.length : Int)) = true := decide_eq_true c15
                              clear c15
                              obtain ⟨y123, hy123⟩ : ∃ y_ : List (S41), y_ = ((l0.take (x5_2 : Int).toNat).drop (x4_1 : Int).toNat) := ⟨_, rfl⟩
                              replace H : ((licitref27_alike.f k3 l0 (rd_L3 x3_2 x7_3) y123).bind fun t128 => (licitref27_States.l2 k3 l0 x3_2 x4_1 x5_2 t128 (wrap64 (x7_3 + 1)))) = some r := by first | (rw [hy123]; with_reducible exact H) | (have H2_ := (Option.bind_some _ _).symm.trans H; rw [hy123]; with_reducible exact H2_) | (have H2_ := (Option.bind_some _ _).symm.trans H; with_reducible exact H2_) | with_reducible exact H | (rw [hy123]; exact H) | exact H
                              have Ny123 := Aside0.mk hy123
                              clear hy123
                              replace H := Option.bind_eq_some_iff.mp H
                              obtain ⟨t128, A160, H⟩ := H
                              replace H : (licitref27_States.l2 k3 l0 x3_2 x4_1 x5_2 t128 (wrap64 (x7_3 + 1))) = some r := H
                              have A16 := Aside0.mk A160
                              clear A160
                              have H' := Aside0.mk H
                              clear H
                              obtain ⟨Ao17, co17, eo17⟩ := Kd.N_slice HO_3.out
                              subst eo17
                              have p122 : 0 ≤ (x7_3 : Int) := of_decide_eq_true (by first | (with_reducible assumption) | assumption)
                              have q122 : x7_3 < (x3_2.length : Int) := of_decide_eq_true (by first | (with_reducible assumption) | assumption)
                              obtain ⟨ad122, A122_0, c122_0, e122, hx122_0, hl122_0, hi122_0⟩ := at_L3 (Kd.N_reads' HO_3.out).2.2 x7_3 p122 q122
                              cases e122
                              obtain ⟨ce122, hce122, hMe122, hcc122⟩ := Kd.N_get HO_3.out [] x7_3 p122 (by first | exact q122 | exact of_decide_eq_true (by first | (with_reducible assumption) | assumption) | (have e_ := (Kd.N_reads' HO_3.out).1; omega))
                              obtain ⟨ua122_0, uc122_0, rfl, ul122_0, ge122_0⟩ := Kd.FK_slice_open hMe122
                              have hv122_0 := hcc122 0 _ rfl
                              rw [Nat.add_zero, show ((Kd.slice 41 k41)).sz = 1 from rfl, Nat.mul_one] at hv122_0
                              replace hv122_0 := Option.some.inj (hv122_0.symm.trans hx122_0)
                              injection hv122_0 with hva_ hvn_ hvc_
                              rw [hva_] at ge122_0
                              rw [hvc_] at ul122_0
                              have HL122_0 := Aside0.mk (show Kd.V k41 41 _ w.heap.size _ _ (rd_L3 x3_2 x7_3) from Kd.V_mk ul122_0 ge122_0)
                              clear hva_ hvn_ hvc_ ge122_0 ul122_0
                              clear hcc122 hce122
                              have HR122_0 := Aside0.mk hi122_0
                              have HC122_0 := Aside0.mk hl122_0
                              clear hi122_0 hl122_0
                              replace p122 := eq_true p122
                              replace q122 := eq_true q122
                              have q18 : (x5_2 : Int) ≤ ((l0.length : Int) : Int) := of_decide_eq_true (by first | (with_reducible assumption) | assumption)
                              obtain ⟨i018, hi018, _, hsz18, _⟩ := info_parts info41
                              have hroom18 : l0.length ≤ c0 := (Kd.V_reads' HO_0.out).2.1
                              have hC18 : Kd.F k41 _ _ A0 l0.length l0 := (Kd.V_at (base := w.heap.size) HO_0.out).2.2
                              have ql18 : (x4_1 : Int) ≤ (x5_2 : Int) := of_decide_eq_true (by first | (with_reducible assumption) | assumption)
                              have q018 : (0 : Int) ≤ (x4_1 : Int) := of_decide_eq_true (by first | (with_reducible assumption) | assumption)
                              have hcut18 := cut_mid (P := Try.prog) 22 41 .i64 .i64 Try.underlying22 hi018 2 hsz18 A0 l0.length c0 x4_1 x5_2 q018 ql18 q18 hroom18
                              have hr18 := Kd.F_mid (lo := (x4_1 : Int).toNat) (hi := (x5_2 : Int).toNat) (c := c0) hC18 (by omega) (by omega) hroom18
                              obtain ⟨A18, hA18⟩ : ∃ A1_, A1_ = (if c0 = (x4_1 : Int).toNat then A0 else (A0 : Option Addr).map (·.add ((x4_1 : Int).toNat * 2))) := ⟨_, rfl⟩
                              obtain ⟨c18, hc18⟩ : ∃ c1, c1 = c0 - (x4_1 : Int).toNat := ⟨_, rfl⟩
                              have hy18 : y123.length = (x5_2 : Int).toNat - (x4_1 : Int).toNat := (by rw [Ny123.out, List.length_drop, List.length_take] <;> omega)
                              rw [show ((l0).take (x5_2 : Int).toNat).drop (x4_1 : Int).toNat = y123 from Ny123.out.symm] at hr18
                              replace hr18 : Kd.F k41 _ _ A18 y123.length y123 := (by rw [hA18]; exact hr18)
                              rw [← hy18, ← hA18, ← hc18] at hcut18
                              have HO127 := Aside0.mk (show Kd.V k41 41 _ w.heap.size _ (.slice A18 y123.length c18) y123 from Kd.V_mk (by rw [hy18, hc18]; exact Nat.sub_le_sub_right (Nat.le_trans (by omega) hroom18) _) hr18)
                              have HC127 := Aside0.mk (show y123.length ≤ c18 from by rw [hy18, hc18]; exact Nat.sub_le_sub_right (Nat.le_trans (by omega) hroom18) _)
                              clear hr18 hC18 hroom18 hi018 hsz18 hc18
                              have KY18 := Aside0.mk hy18
                              have KA18 := Aside0.mk hA18
                              clear hy18 hA18
                              replace q18 := eq_true q18
                              go_wp2_with (first | (go_at_call 36; (with_reducible refine (licitref27_alike.calls k3 _ _ l0 _ _ (rd_L3 x3_2 x7_3) _ _ y123 t128 _ ?side1 ?side2 ?side3 ?side4 ?side5 ?side6 A16.out).mono ?_); (case side1 => repeat (first | exact (Kd.V_reads' HO_0.out).2.2 | (with_reducible refine Kd.C_alloc ?_ _) | (with_reducible refine Kd.C_drewN ?_ _) | (with_reducible refine Kd.C_drew ?_))); (case side2 => exact (Kd.V_reads' HO_0.out).2.1); (case side3 => repeat (first | exact (by repeat (first | (with_reducible exact HR122_0.out) | (with_reducible refine Kd.C_alloc ?_ _) | (with_reducible refine Kd.C_drewN ?_ _) | (with_reducible refine Kd.C_drew ?_) | exact HR122_0.out)) | (with_reducible refine Kd.C_alloc ?_ _) | (with_reducible refine Kd.C_drewN ?_ _) | (with_reducible refine Kd.C_drew ?_))); (case side4 => exact HC122_0.out); (case side5 => repeat (first | exact (Kd.V_reads' HO127.out).2.2 | (with_reducible refine Kd.C_alloc ?_ _) | (with_reducible refine Kd.C_drewN ?_ _) | (with_reducible refine Kd.C_drew ?_))); (case side6 => exact (Kd.V_reads' HO127.out).2.1); rintro e w' ⟨rfl, ⟨nd, rfl⟩⟩; (try first | exact ⟨rfl, _, World.drewN_drewN _ _ _⟩ | exact ⟨rfl, _, Eq.trans (World.drewN_drewN _ _ _) (congrArg (World.drewN _) (Nat.add_assoc _ _ _))⟩)))
                              repeat (go_quiet (first | (go_at_call 36; (with_reducible refine (licitref27_alike.calls k3 _ _ l0 _ _ (rd_L3 x3_2 x7_3) _ _ y123 t128 _ ?side1 ?side2 ?side3 ?side4 ?side5 ?side6 A16.out).mono ?_); (case side1 => repeat (first | exact (Kd.V_reads' HO_0.out).2.2 | (with_reducible refine Kd.C_alloc ?_ _) | (with_reducible refine Kd.C_drewN ?_ _) | (with_reducible refine Kd.C_drew ?_))); (case side2 => exact (Kd.V_reads' HO_0.out).2.1); (case side3 => repeat (first | exact (by repeat (first | (with_reducible exact HR122_0.out) | (with_reducible refine Kd.C_alloc ?_ _) | (with_reducible refine Kd.C_drewN ?_ _) | (with_reducible refine Kd.C_drew ?_) | exact HR122_0.out)) | (with_reducible refine Kd.C_alloc ?_ _) | (with_reducible refine Kd.C_drewN ?_ _) | (with_reducible refine Kd.C_drew ?_))); (case side4 => exact HC122_0.out); (case side5 => repeat (first | exact (Kd.V_reads' HO127.out).2.2 | (with_reducible refine Kd.C_alloc ?_ _) | (with_reducible refine Kd.C_drewN ?_ _) | (with_reducible refine Kd.C_drew ?_))); (case side6 => exact (Kd.V_reads' HO127.out).2.1); rintro e w' ⟨rfl, ⟨nd, rfl⟩⟩; (try first | exact ⟨rfl, _, World.drewN_drewN _ _ _⟩ | exact ⟨rfl, _, Eq.trans (World.drewN_drewN _ _ _) (congrArg (World.drewN _) (Nat.add_assoc _ _ _))⟩))); try go_wp2_with (first | (go_at_call 36; (with_reducible refine (licitref27_alike.calls k3 _ _ l0 _ _ (rd_L3 x3_2 x7_3) _ _ y123 t128 _ ?side1 ?side2 ?side3 ?side4 ?side5 ?side6 A16.out).mono ?_); (case side1 => repeat (first | exact (Kd.V_reads' HO_0.out).2.2 | (with_reducible refine Kd.C_alloc ?_ _) | (with_reducible refine Kd.C_drewN ?_ _) | (with_reducible refine Kd.C_drew ?_))); (case side2 => exact (Kd.V_reads' HO_0.out).2.1); (case side3 => repeat (first | exact (by repeat (first | (with_reducible exact HR122_0.out) | (with_reducible refine Kd.C_alloc ?_ _) | (with_reducible refine Kd.C_drewN ?_ _) | (with_reducible refine Kd.C_drew ?_) | exact HR122_0.out)) | (with_reducible refine Kd.C_alloc ?_ _) | (with_reducible refine Kd.C_drewN ?_ _) | (with_reducible refine Kd.C_drew ?_))); (case side4 => exact HC122_0.out); (case side5 => repeat (first | exact (Kd.V_reads' HO127.out).2.2 | (with_reducible refine Kd.C_alloc ?_ _) | (with_reducible refine Kd.C_drewN ?_ _) | (with_reducible refine Kd.C_drew ?_))); (case side6 => exact (Kd.V_reads' HO127.out).2.1); rintro e w' ⟨rfl, ⟨nd, rfl⟩⟩; (try first | exact ⟨rfl, _, World.drewN_drewN _ _ _⟩ | exact ⟨rfl, _, Eq.trans (World.drewN_drewN _ _ _) (congrArg (World.drewN _) (Nat.add_assoc _ _ _))⟩))))
                              go_roundg k3
                              case measure => have := HK1.out; have := HK2.out; have := HK3.out; omega
                              case rel => exact ⟨(t128), (wrap64 (x7_3 + 1)), (by first | rfl | (simp; done) | (simp [*]; done)), (by first | rfl | (simp; done) | (simp [*]; done)), H', ⟨by have := HK1.out; have := HK2.out; have := HK3.out; omega⟩, ⟨by (with_reducible repeat (first | apply Kd.V_alloc | apply Kd.V_drewN | apply Kd.V_drew)); exact HO_0.out⟩, ⟨by (with_reducible repeat (first | apply Kd.N_alloc | apply Kd.N_drewN | apply Kd.N_drew)); exact HO_3.out⟩, ⟨by repeat (first | (with_reducible first | exact HB.out | apply below_alloc | apply pw_below_drewN | apply below_drew1) | exact HB.out)⟩⟩
                            · rw [if_neg c15] at H
                              exact absurd H (by simp)
                          · rw [if_neg c14] at H
                            exact absurd H (by simp)
                        · rw [if_neg c13] at H
                          exact absurd H (by simp)
                      · rw [if_neg c12] at H
                        exact absurd H (by simp)
                  · rw [if_neg c9] at H
                    have c9b0 : decide (x7_3 < (x3_2.length : Int)) = false := decide_eq_false c9
                    clear c9
                    by_cases c19 : x6_3 = true
                    · subst c19
                      have H1 : (licitref27_States.l1 k3 l0 x3_2 x4_1 (wrap64 (x5_2 + 1))) = some r := by rw [if_pos rfl] at H; exact H
                      clear H
                      have H := H1
                      clear H1
                      have H' := Aside0.mk H
                      clear H
                      obtain ⟨Ao20, co20, eo20⟩ := Kd.N_slice HO_3.out
                      subst eo20
                      go_wp2
                      repeat (go_quiet (fail); try go_wp2)
                      go_roundg k3
                      case measure => have := HK1.out; have := HK2.out; have := HK3.out; omega
                      case rel => exact ⟨(x3_2), (wrap64 (x5_2 + 1)), (by first | rfl | (simp; done) | (simp [*]; done)), H', ⟨by have := HK1.out; have := HK2.out; have := HK3.out; omega⟩, ⟨by (with_reducible repeat (first | apply Kd.V_alloc | apply Kd.V_drewN | apply Kd.V_drew)); exact HO_0.out⟩, ⟨by (with_reducible repeat (first | apply Kd.N_alloc | apply Kd.N_drewN | apply Kd.N_drew)); exact HO_3.out⟩, ⟨by repeat (first | (with_reducible first | exact HB.out | apply below_alloc | apply pw_below_drewN | apply below_drew1) | exact HB.out)⟩⟩
                    · replace c19 := Bool.eq_false_iff.mpr c19
                      subst c19
                      have H1 : (if 0 ≤ x4_1 then (if x4_1 ≤ x5_2 then (if x5_2 ≤ (l0.length : Int) then (if x3_2.length < 5864062014805 then (licitref27_States.l1 k3 l0 (x3_2 ++ [((l0.take (x5_2 : Int).toNat).drop (x4_1 : Int).toNat)]) x4_1 (wrap64 (x5_2 + 1))) else (none)) else (none)) else (none)) else (none)) = some r := by rw [if_neg (show ¬ (false = true) by decide)] at H; exact H
                      clear H
                      have H := H1
                      clear H1
                      by_cases c21 : 0 ≤ x4_1
                      · rw [if_pos c21] at H
                        have c21b0 := eq_true c21
                        have c21b1 : decide (0 ≤ x4_1) = true := decide_eq_true c21
                        clear c21
                        by_cases c22 : x4_1 ≤ x5_2
                        · rw [if_pos c22] at H
                          have c22b0 := eq_true c22
                          have c22b1 : decide (x4_1 ≤ x5_2) = true := decide_eq_true c22
                          clear c22
                          by_cases c23 : x5_2 ≤ (l0.length : Int)
                          · rw [if_pos c23] at H
                            have c23b0 := eq_true c23
                            have c23b1 : decide (x5_2 ≤ (l0.length : Int)) = true := decide_eq_true c23
                            clear c23
                            obtain ⟨y129, hy129⟩ : ∃ y_ : List (S41), y_ = ((l0.take (x5_2 : Int).toNat).drop (x4_1 : Int).toNat) := ⟨_, rfl⟩
                            replace H : (if x3_2.length < 5864062014805 then (licitref27_States.l1 k3 l0 (x3_2 ++ [y129]) x4_1 (wrap64 (x5_2 + 1))) else (none)) = some r := by first | (rw [hy129]; with_reducible exact H) | (have H2_ := (Option.bind_some _ _).symm.trans H; rw [hy129]; with_reducible exact H2_) | (have H2_ := (Option.bind_some _ _).symm.trans H; with_reducible exact H2_) | with_reducible exact H | (rw [hy129]; exact H) | exact H
                            have Ny129 := Aside0.mk hy129
                            clear hy129
                            by_cases c24 : x3_2.length < 5864062014805
                            · rw [if_pos c24] at H
                              have LMc24 := Aside0.mk c24
                              clear c24
                              obtain ⟨y134, hy134⟩ : ∃ y_ : List (List (S41)), y_ = (x3_2 ++ [y129]) := ⟨_, rfl⟩
                              replace H : (licitref27_States.l1 k3 l0 y134 x4_1 (wrap64 (x5_2 + 1))) = some r := by first | (rw [hy134]; with_reducible exact H) | (have H2_ := (Option.bind_some _ _).symm.trans H; rw [hy134]; with_reducible exact H2_) | (have H2_ := (Option.bind_some _ _).symm.trans H; with_reducible exact H2_) | with_reducible exact H | (rw [hy134]; exact H) | exact H
                              have Ny134 := Aside0.mk hy134
                              clear hy134
                              have H' := Aside0.mk H
                              clear H
                              obtain ⟨Ao25, co25, eo25⟩ := Kd.N_slice HO_3.out
                              subst eo25
                              have q26 : (x5_2 : Int) ≤ ((l0.length : Int) : Int) := of_decide_eq_true (by first | (with_reducible assumption) | assumption)
                              obtain ⟨i026, hi026, _, hsz26, _⟩ := info_parts info41
                              have hroom26 : l0.length ≤ c0 := (Kd.V_reads' HO_0.out).2.1
                              have hC26 : Kd.F k41 _ _ A0 l0.length l0 := (Kd.V_at (base := w.heap.size) HO_0.out).2.2
                              have ql26 : (x4_1 : Int) ≤ (x5_2 : Int) := of_decide_eq_true (by first | (with_reducible assumption) | assumption)
                              have q026 : (0 : Int) ≤ (x4_1 : Int) := of_decide_eq_true (by first | (with_reducible assumption) | assumption)
                              have hcut26 := cut_mid (P := Try.prog) 22 41 .i64 .i64 Try.underlying22 hi026 2 hsz26 A0 l0.length c0 x4_1 x5_2 q026 ql26 q26 hroom26
                              have hr26 := Kd.F_mid (lo := (x4_1 : Int).toNat) (hi := (x5_2 : Int).toNat) (c := c0) hC26 (by omega) (by omega) hroom26
                              obtain ⟨A26, hA26⟩ : ∃ A1_, A1_ = (if c0 = (x4_1 : Int).toNat then A0 else (A0 : Option Addr).map (·.add ((x4_1 : Int).toNat * 2))) := ⟨_, rfl⟩
                              obtain ⟨c26, hc26⟩ : ∃ c1, c1 = c0 - (x4_1 : Int).toNat := ⟨_, rfl⟩
                              have hy26 : y129.length = (x5_2 : Int).toNat - (x4_1 : Int).toNat := (by rw [Ny129.out, List.length_drop, List.length_take] <;> omega)
                              rw [show ((l0).take (x5_2 : Int).toNat).drop (x4_1 : Int).toNat = y129 from Ny129.out.symm] at hr26
                              replace hr26 : Kd.F k41 _ _ A26 y129.length y129 := (by rw [hA26]; exact hr26)
                              rw [← hy26, ← hA26, ← hc26] at hcut26
                              have HO133 := Aside0.mk (show Kd.V k41 41 _ w.heap.size _ (.slice A26 y129.length c26) y129 from Kd.V_mk (by rw [hy26, hc26]; exact Nat.sub_le_sub_right (Nat.le_trans (by omega) hroom26) _) hr26)
                              have HC133 := Aside0.mk (show y129.length ≤ c26 from by rw [hy26, hc26]; exact Nat.sub_le_sub_right (Nat.le_trans (by omega) hroom26) _)
                              clear hr26 hC26 hroom26 hi026 hsz26 hc26
                              have KY26 := Aside0.mk hy26
                              have KA26 := Aside0.mk hA26
                              clear hy26 hA26
                              replace q26 := eq_true q26
                              go_wp2_with (first | ((with_reducible refine gate_builtin (b := .append) (xs := #[.tmp 45, .tmp 50]) rfl ?_); at_builtin; refine Kd.N_append (Kd.slice 41 k41) (w0 := w) w.heap.size rfl (.tmp 45) (.tmp 50) 58 22 (.slice none 0 0) 24 rfl Try.underlying58 info22 rfl (by decide) (by omega) (.slice Ao25 x3_2.length co25) x3_2 y129 [.slice A26 y129.length c26] (fun k_ => (P0_ k_ ∨ w.heap.size ≤ k_)) (fun k_ => ((fun k_ => (P0_ k_ ∨ w.heap.size ≤ k_))) k_ ∧ some k_ ≠ (.slice Ao25 x3_2.length co25 : Value).ownBlock) rfl rfl ?aP (fun _ hk => hk) ?aF ?aO ?aB ?aS ?aL ?_; (case aP => exact (Kd.FK_slice_mk (Kd.V_reads' (Kd.V_mono (ok' := (fun k_ => ((fun k_ => (P0_ k_ ∨ w.heap.size ≤ k_))) k_ ∧ some k_ ≠ (.slice Ao25 x3_2.length co25 : Value).ownBlock)) (HO133.out) (fun k_ hk => ⟨hk.1, hk.2⟩))).2.1 (Kd.V_F (Kd.V_mono (ok' := (fun k_ => ((fun k_ => (P0_ k_ ∨ w.heap.size ≤ k_))) k_ ∧ some k_ ≠ (.slice Ao25 x3_2.length co25 : Value).ownBlock)) (HO133.out) (fun k_ hk => ⟨hk.1, hk.2⟩))))); (case aB => exact (by repeat (first | (with_reducible first | exact HB.out | apply below_alloc | apply pw_below_drewN | apply below_drew1) | exact HB.out))); (case aF => exact (fun k_ hk => (.inr (Nat.le_trans (below_size (by repeat (first | (with_reducible first | exact HB.out | apply below_alloc | apply pw_below_drewN | apply below_drew1) | exact HB.out))) hk)))); (case aO => exact (by (with_reducible repeat (first | apply Kd.N_alloc | apply Kd.N_drewN | apply Kd.N_drew)); exact HO_3.out)); (case aS => exact (below_size (by repeat (first | (with_reducible first | exact HB.out | apply below_alloc | apply pw_below_drewN | apply below_drew1) | exact HB.out)))); (case aL => have := LMc24.out; omega); intro v135 w27 ho hb hg hat; rw [← Ny134.out] at ho; have n0_ := Aside0.mk (Kd.V_afterv (ok := (fun k_ => (P0_ k_ ∨ w.heap.size ≤ k_))) (by (with_reducible repeat (first | apply Kd.V_alloc | apply Kd.V_drewN | apply Kd.V_drew)); exact HO_0.out) hg hat); have n1_ := Aside0.mk (Kd.V_afterv (ok := (fun k_ => (P0_ k_ ∨ w.heap.size ≤ k_))) (by (with_reducible repeat (first | apply Kd.V_alloc | apply Kd.V_drewN | apply Kd.V_drew)); exact HO133.out) hg hat); have n2_ := Aside0.mk (hb); have n3_ := Aside0.mk (ho); clear HO_0; clear HO133; clear HB; clear HO_3; have HO_0 := n0_; have HO133 := n1_; have HB := n2_; have HO136 := n3_; clear n0_ n1_ n2_ n3_; clear ho hb hg hat))
                              repeat (go_quiet (first | ((with_reducible refine gate_builtin (b := .append) (xs := #[.tmp 45, .tmp 50]) rfl ?_); at_builtin; refine Kd.N_append (Kd.slice 41 k41) (w0 := w) w.heap.size rfl (.tmp 45) (.tmp 50) 58 22 (.slice none 0 0) 24 rfl Try.underlying58 info22 rfl (by decide) (by omega) (.slice Ao25 x3_2.length co25) x3_2 y129 [.slice A26 y129.length c26] (fun k_ => (P0_ k_ ∨ w.heap.size ≤ k_)) (fun k_ => ((fun k_ => (P0_ k_ ∨ w.heap.size ≤ k_))) k_ ∧ some k_ ≠ (.slice Ao25 x3_2.length co25 : Value).ownBlock) rfl rfl ?aP (fun _ hk => hk) ?aF ?aO ?aB ?aS ?aL ?_; (case aP => exact (Kd.FK_slice_mk (Kd.V_reads' (Kd.V_mono (ok' := (fun k_ => ((fun k_ => (P0_ k_ ∨ w.heap.size ≤ k_))) k_ ∧ some k_ ≠ (.slice Ao25 x3_2.length co25 : Value).ownBlock)) (HO133.out) (fun k_ hk => ⟨hk.1, hk.2⟩))).2.1 (Kd.V_F (Kd.V_mono (ok' := (fun k_ => ((fun k_ => (P0_ k_ ∨ w.heap.size ≤ k_))) k_ ∧ some k_ ≠ (.slice Ao25 x3_2.length co25 : Value).ownBlock)) (HO133.out) (fun k_ hk => ⟨hk.1, hk.2⟩))))); (case aB => exact (by repeat (first | (with_reducible first | exact HB.out | apply below_alloc | apply pw_below_drewN | apply below_drew1) | exact HB.out))); (case aF => exact (fun k_ hk => (.inr (Nat.le_trans (below_size (by repeat (first | (with_reducible first | exact HB.out | apply below_alloc | apply pw_below_drewN | apply below_drew1) | exact HB.out))) hk)))); (case aO => exact (by (with_reducible repeat (first | apply Kd.N_alloc | apply Kd.N_drewN | apply Kd.N_drew)); exact HO_3.out)); (case aS => exact (below_size (by repeat (first | (with_reducible first | exact HB.out | apply below_alloc | apply pw_below_drewN | apply below_drew1) | exact HB.out)))); (case aL => have := LMc24.out; omega); intro v135 w27 ho hb hg hat; rw [← Ny134.out] at ho; have n0_ := Aside0.mk (Kd.V_afterv (ok := (fun k_ => (P0_ k_ ∨ w.heap.size ≤ k_))) (by (with_reducible repeat (first | apply Kd.V_alloc | apply Kd.V_drewN | apply Kd.V_drew)); exact HO_0.out) hg hat); have n1_ := Aside0.mk (Kd.V_afterv (ok := (fun k_ => (P0_ k_ ∨ w.heap.size ≤ k_))) (by (with_reducible repeat (first | apply Kd.V_alloc | apply Kd.V_drewN | apply Kd.V_drew)); exact HO133.out) hg hat); have n2_ := Aside0.mk (hb); have n3_ := Aside0.mk (ho); clear HO_0; clear HO133; clear HB; clear HO_3; have HO_0 := n0_; have HO133 := n1_; have HB := n2_; have HO136 := n3_; clear n0_ n1_ n2_ n3_; clear ho hb hg hat)); try go_wp2_with (first | ((with_reducible refine gate_builtin (b := .append) (xs := #[.tmp 45, .tmp 50]) rfl ?_); at_builtin; refine Kd.N_append (Kd.slice 41 k41) (w0 := w) w.heap.size rfl (.tmp 45) (.tmp 50) 58 22 (.slice none 0 0) 24 rfl Try.underlying58 info22 rfl (by decide) (by omega) (.slice Ao25 x3_2.length co25) x3_2 y129 [.slice A26 y129.length c26] (fun k_ => (P0_ k_ ∨ w.heap.size ≤ k_)) (fun k_ => ((fun k_ => (P0_ k_ ∨ w.heap.size ≤ k_))) k_ ∧ some k_ ≠ (.slice Ao25 x3_2.length co25 : Value).ownBlock) rfl rfl ?aP (fun _ hk => hk) ?aF ?aO ?aB ?aS ?aL ?_; (case aP => exact (Kd.FK_slice_mk (Kd.V_reads' (Kd.V_mono (ok' := (fun k_ => ((fun k_ => (P0_ k_ ∨ w.heap.size ≤ k_))) k_ ∧ some k_ ≠ (.slice Ao25 x3_2.length co25 : Value).ownBlock)) (HO133.out) (fun k_ hk => ⟨hk.1, hk.2⟩))).2.1 (Kd.V_F (Kd.V_mono (ok' := (fun k_ => ((fun k_ => (P0_ k_ ∨ w.heap.size ≤ k_))) k_ ∧ some k_ ≠ (.slice Ao25 x3_2.length co25 : Value).ownBlock)) (HO133.out) (fun k_ hk => ⟨hk.1, hk.2⟩))))); (case aB => exact (by repeat (first | (with_reducible first | exact HB.out | apply below_alloc | apply pw_below_drewN | apply below_drew1) | exact HB.out))); (case aF => exact (fun k_ hk => (.inr (Nat.le_trans (below_size (by repeat (first | (with_reducible first | exact HB.out | apply below_alloc | apply pw_below_drewN | apply below_drew1) | exact HB.out))) hk)))); (case aO => exact (by (with_reducible repeat (first | apply Kd.N_alloc | apply Kd.N_drewN | apply Kd.N_drew)); exact HO_3.out)); (case aS => exact (below_size (by repeat (first | (with_reducible first | exact HB.out | apply below_alloc | apply pw_below_drewN | apply below_drew1) | exact HB.out)))); (case aL => have := LMc24.out; omega); intro v135 w27 ho hb hg hat; rw [← Ny134.out] at ho; have n0_ := Aside0.mk (Kd.V_afterv (ok := (fun k_ => (P0_ k_ ∨ w.heap.size ≤ k_))) (by (with_reducible repeat (first | apply Kd.V_alloc | apply Kd.V_drewN | apply Kd.V_drew)); exact HO_0.out) hg hat); have n1_ := Aside0.mk (Kd.V_afterv (ok := (fun k_ => (P0_ k_ ∨ w.heap.size ≤ k_))) (by (with_reducible repeat (first | apply Kd.V_alloc | apply Kd.V_drewN | apply Kd.V_drew)); exact HO133.out) hg hat); have n2_ := Aside0.mk (hb); have n3_ := Aside0.mk (ho); clear HO_0; clear HO133; clear HB; clear HO_3; have HO_0 := n0_; have HO133 := n1_; have HB := n2_; have HO136 := n3_; clear n0_ n1_ n2_ n3_; clear ho hb hg hat)))
                              go_roundg k3
                              case measure => have := HK1.out; have := HK2.out; have := HK3.out; omega
                              case rel => exact ⟨(y134), (wrap64 (x5_2 + 1)), (by first | rfl | (simp; done) | (simp [*]; done)), H', ⟨by have := HK1.out; have := HK2.out; have := HK3.out; omega⟩, ⟨by (with_reducible repeat (first | apply Kd.V_alloc | apply Kd.V_drewN | apply Kd.V_drew)); exact HO_0.out⟩, ⟨by (with_reducible repeat (first | apply Kd.N_alloc | apply Kd.N_drewN | apply Kd.N_drew)); exact HO136.out⟩, ⟨by repeat (first | (with_reducible first | exact HB.out | apply below_alloc | apply pw_below_drewN | apply below_drew1) | exact HB.out)⟩⟩
                            · rw [if_neg c24] at H
                              exact absurd H (by simp)
                          · rw [if_neg c23] at H
                            exact absurd H (by simp)
                        · rw [if_neg c22] at H
                          exact absurd H (by simp)
                      · rw [if_neg c21] at H
                        exact absurd H (by simp)
            · rw [if_neg c8] at H
              have c8b0 : decide (x5_2 ≤ (l0.length : Int)) = false := decide_eq_false c8
              clear c8
              have H' := Aside0.mk H
              clear H
              go_wp2
              repeat (go_quiet (fail); try go_wp2)
              go_roundg k2
              case measure => have := HK1.out; have := HK2.out; omega
              case rel => exact ⟨(x3_2), (wrap64 (x4_1 + 1)), (by first | rfl | (simp; done) | (simp [*]; done)), H', ⟨by have := HK1.out; have := HK2.out; omega⟩, ⟨by (with_reducible repeat (first | apply Kd.V_alloc | apply Kd.V_drewN | apply Kd.V_drew)); exact HO_0.out⟩, ⟨by (with_reducible repeat (first | apply Kd.N_alloc | apply Kd.N_drewN | apply Kd.N_drew)); exact HO_3.out⟩, ⟨by repeat (first | (with_reducible first | exact HB.out | apply below_alloc | apply pw_below_drewN | apply below_drew1) | exact HB.out)⟩⟩
      · rw [if_neg c7] at H
        have c7b0 : decide (x4_1 < (l0.length : Int)) = false := decide_eq_false c7
        clear c7
        obtain rfl := Option.some.inj H
        obtain ⟨Ao28, co28, eo28⟩ := Kd.N_slice HO_3.out
        subst eo28
        go_wp2
        repeat (go_quiet (fail); try go_wp2)
        go_ret
        exact ⟨by first | rfl | (simp [errW_none, errW_some] <;> rfl) | (simp [*, errW_none, errW_some] <;> rfl), by repeat (first | (with_reducible first | exact HB.out | apply below_alloc | apply pw_below_drewN | apply below_drew1) | exact HB.out)⟩

/-! ### licitref27_Runs: function 16 -/
mutual
def licitref27_Runs.l0 : Nat → List (S41) → Int → Int → Option (Int)
  | 0, _, _, _ => none
  | k + 1, x0, x3, x4 => if x4 < (x0.length : Int) then (licitref27_Runs.l1 k x0 x3 x4 (wrap64 (x4 + 1))) else (some x3)
def licitref27_Runs.l1 : Nat → List (S41) → Int → Int → Int → Option (Int)
  | 0, _, _, _, _ => none
  | k + 1, x0, x3, x4, x5 => if x5 ≤ (x0.length : Int) then (if 0 ≤ x4 then (if x4 ≤ x5 then ((licitref27_First.f k x0 ((x0.take (x5 : Int).toNat).drop (x4 : Int).toNat)).bind fun t142 => (if t142 = x4 then (licitref27_Runs.l1 k x0 (wrap64 (x3 + 1)) x4 (wrap64 (x5 + 1))) else (licitref27_Runs.l1 k x0 x3 x4 (wrap64 (x5 + 1))))) else (none)) else (none)) else (licitref27_Runs.l0 k x0 x3 (wrap64 (x4 + 1)))
end
def licitref27_Runs.f (k : Nat) (l0 : List (S41)) : Option (Int) := licitref27_Runs.l0 k l0 0 0
theorem licitref27_Runs.mono_l : ∀ k, (∀ y0 y1 y2, LeO (licitref27_Runs.l0 k y0 y1 y2) (licitref27_Runs.l0 (k + 1) y0 y1 y2)) ∧ (∀ y0 y1 y2 y3, LeO (licitref27_Runs.l1 k y0 y1 y2 y3) (licitref27_Runs.l1 (k + 1) y0 y1 y2 y3))
  | 0 => ⟨fun _ _ _ r h => by simp [licitref27_Runs.l0] at h, fun _ _ _ _ r h => by simp [licitref27_Runs.l1] at h⟩
  | k + 1 => by
    obtain ⟨ih0, ih1⟩ := licitref27_Runs.mono_l k
    refine ⟨?_, ?_⟩
    · intro y0 y1 y2
      unfold licitref27_Runs.l0
      repeat' first
      | (with_reducible exact ih0 _ _ _)
      | (with_reducible exact ih1 _ _ _ _)
      | (with_reducible exact licitref27_First.mono _ _ _)
      | (with_reducible exact LeO.refl _)
      | (with_reducible exact LeO.none _)
      | (with_reducible refine LeO.ite ?_ ?_)
      | (with_reducible refine LeO.bind ?_ (fun _ => ?_))
      | exact ih0 _ _ _
      | exact ih1 _ _ _ _
      | exact licitref27_First.mono _ _ _
      | exact LeO.none _
      | refine LeO.ite ?_ ?_
      | refine LeO.bind ?_ (fun _ => ?_)
    · intro y0 y1 y2 y3
      unfold licitref27_Runs.l1
      repeat' first
      | (with_reducible exact ih0 _ _ _)
      | (with_reducible exact ih1 _ _ _ _)
      | (with_reducible exact licitref27_First.mono _ _ _)
      | (with_reducible exact LeO.refl _)
      | (with_reducible exact LeO.none _)
      | (with_reducible refine LeO.ite ?_ ?_)
      | (with_reducible refine LeO.bind ?_ (fun _ => ?_))
      | exact ih0 _ _ _
      | exact ih1 _ _ _ _
      | exact licitref27_First.mono _ _ _
      | exact LeO.none _
      | refine LeO.ite ?_ ?_
      | refine LeO.bind ?_ (fun _ => ?_)
theorem licitref27_Runs.mono : ∀ a0 k, LeO (licitref27_Runs.f k a0) (licitref27_Runs.f (k + 1) a0) := by
  intro a0 k
  obtain ⟨ih0, ih1⟩ := licitref27_Runs.mono_l k
  unfold licitref27_Runs.f
  repeat' first
      | (with_reducible exact ih0 _ _ _)
      | (with_reducible exact ih1 _ _ _ _)
      | (with_reducible exact licitref27_First.mono _ _ _)
      | (with_reducible exact LeO.refl _)
      | (with_reducible exact LeO.none _)
      | (with_reducible refine LeO.ite ?_ ?_)
      | (with_reducible refine LeO.bind ?_ (fun _ => ?_))
      | exact ih0 _ _ _
      | exact ih1 _ _ _ _
      | exact licitref27_First.mono _ _ _
      | exact LeO.none _
      | refine LeO.ite ?_ ?_
      | refine LeO.bind ?_ (fun _ => ?_)
set_option maxHeartbeats 8000000 in
set_option maxRecDepth 100000 in
theorem licitref27_Runs.calls (k : Nat) (A0 : Option Addr) (c0 : Nat) (l0 : List (S41)) (r : Int) (w : World) (hr0 : Kd.C k41 w A0 l0.length l0) (hc0 : l0.length ≤ c0) (h : licitref27_Runs.f k l0 = some r) :
    Calls Try.prog 16 #[.slice A0 l0.length c0] w fun e w' => e = .returned (.int .i64 r) ∧ Drawn0 w w' := by
  have HR0 := Aside0.mk hr0
  have HC0 := Aside0.mk hc0
  clear hr0 hc0
  have H : (licitref27_Runs.l0 k l0 0 0) = some r := h
  clear h
  have H' := Aside0.mk H
  clear H
  go_enter Try.func16, Try.ntmps16
  go_wp2
  go_loopg [3, 4] k (fun kq v3 v4 w' => ∃ (x3_1 : Int) (x4_1 : Int), v3 = .int .i64 x3_1 ∧ v4 = .int .i64 x4_1 ∧ Aside0 (licitref27_Runs.l0 kq l0 x3_1 x4_1 = some r) ∧ Aside0 (kq ≤ k) ∧ Drawn0 w w')
  case atStart => exact ⟨(0), (0), (by first | rfl | (simp; done) | (simp [*]; done)), (by first | rfl | (simp; done) | (simp [*]; done)), H', ⟨Nat.le_refl _⟩, by repeat (first | exact Drawn0.refl _ | apply Drawn0.step)⟩
  case round =>
    clear H'
    try clear c1
    obtain ⟨x3_1, x4_1, rfl, rfl, HA, HK1, ⟨m1, rfl⟩⟩ := hrel
    cases gk with
    | zero => exact absurd HA.out (by simp [licitref27_Runs.l0])
    | succ k1 =>
      have H := HA.out
      clear HA
      simp only [licitref27_Runs.l0] at H
      by_cases c2 : x4_1 < (l0.length : Int)
      · rw [if_pos c2] at H
        have c2b0 : decide (x4_1 < (l0.length : Int)) = true := decide_eq_true c2
        clear c2
        have H' := Aside0.mk H
        clear H
        go_wp2
        go_loopg [3, 5] k1 (fun kq v3 v5 w' => ∃ (x3_2 : Int) (x5_2 : Int), v3 = .int .i64 x3_2 ∧ v5 = .int .i64 x5_2 ∧ Aside0 (licitref27_Runs.l1 kq l0 x3_2 x4_1 x5_2 = some r) ∧ Aside0 (kq ≤ k1) ∧ Drawn0 w w')
        case atStart => exact ⟨(x3_1), (wrap64 (x4_1 + 1)), (by first | rfl | (simp; done) | (simp [*]; done)), (by first | rfl | (simp; done) | (simp [*]; done)), H', ⟨Nat.le_refl _⟩, by repeat (first | exact Drawn0.refl _ | apply Drawn0.step)⟩
        case round =>
          clear H'
          try clear c1
          try clear c2
          try clear c2b0
          try clear p2
          obtain ⟨x3_2, x5_2, rfl, rfl, HA, HK2, ⟨m2, rfl⟩⟩ := hrel
          cases gk with
          | zero => exact absurd HA.out (by simp [licitref27_Runs.l1])
          | succ k2 =>
            have H := HA.out
            clear HA
            simp only [licitref27_Runs.l1] at H
            by_cases c3 : x5_2 ≤ (l0.length : Int)
            · rw [if_pos c3] at H
              have c3b0 : decide (x5_2 ≤ (l0.length : Int)) = true := decide_eq_true c3
              clear c3
              by_cases c4 : 0 ≤ x4_1
              · rw [if_pos c4] at H
                have c4b0 := eq_true c4
                have c4b1 : decide (0 ≤ x4_1) = true := decide_eq_true c4
                clear c4
                by_cases c5 : x4_1 ≤ x5_2
                · rw [if_pos c5] at H
                  have c5b0 := eq_true c5
                  have c5b1 : decide (x4_1 ≤ x5_2) = true := decide_eq_true c5
                  clear c5
                  have c6b0 := eq_true (of_decide_eq_true (by first | (with_reducible assumption) | assumption) : x5_2 ≤ (l0.length : Int))
                  obtain ⟨y138, hy138⟩ : ∃ y_ : List (S41), y_ = ((l0.take (x5_2 : Int).toNat).drop (x4_1 : Int).toNat) := ⟨_, rfl⟩
                  replace H : ((licitref27_First.f k2 l0 y138).bind fun t142 => (if t142 = x4_1 then (licitref27_Runs.l1 k2 l0 (wrap64 (x3_2 + 1)) x4_1 (wrap64 (x5_2 + 1))) else (licitref27_Runs.l1 k2 l0 x3_2 x4_1 (wrap64 (x5_2 + 1))))) = some r := by first | (rw [hy138]; with_reducible exact H) | (have H2_ := (Option.bind_some _ _).symm.trans H; rw [hy138]; with_reducible exact H2_) | (have H2_ := (Option.bind_some _ _).symm.trans H; with_reducible exact H2_) | with_reducible exact H | (rw [hy138]; exact H) | exact H
                  have Ny138 := Aside0.mk hy138
                  clear hy138
                  replace H := Option.bind_eq_some_iff.mp H
                  obtain ⟨t142, A70, H⟩ := H
                  replace H : (if t142 = x4_1 then (licitref27_Runs.l1 k2 l0 (wrap64 (x3_2 + 1)) x4_1 (wrap64 (x5_2 + 1))) else (licitref27_Runs.l1 k2 l0 x3_2 x4_1 (wrap64 (x5_2 + 1)))) = some r := H
                  have A7 := Aside0.mk A70
                  clear A70
                  by_cases c8 : t142 = x4_1
                  · rw [if_pos c8] at H
                    have c8b0 : (t142 == x4_1) = true := beq_iff_eq.mpr c8
                    have c8b1 : (t142 != x4_1) = false := bne_eq_false_iff_eq.mpr c8
                    clear c8
                    have H' := Aside0.mk H
                    clear H
                    have q9 : (x5_2 : Int) ≤ ((l0.length : Int) : Int) := of_decide_eq_true (by first | (with_reducible assumption) | assumption)
                    obtain ⟨i09, hi09, _, hsz9, _⟩ := info_parts info41
                    have hroom9 : l0.length ≤ c0 := HC0.out
                    have hC9 : Kd.C k41 _ A0 l0.length l0 := HR0.out
                    have ql9 : (x4_1 : Int) ≤ (x5_2 : Int) := of_decide_eq_true (by first | (with_reducible assumption) | assumption)
                    have q09 : (0 : Int) ≤ (x4_1 : Int) := of_decide_eq_true (by first | (with_reducible assumption) | assumption)
                    have hcut9 := cut_mid (P := Try.prog) 22 41 .i64 .i64 Try.underlying22 hi09 2 hsz9 A0 l0.length c0 x4_1 x5_2 q09 ql9 q9 hroom9
                    have hr9 := Kd.C_mid (lo := (x4_1 : Int).toNat) (hi := (x5_2 : Int).toNat) (c := c0) hC9 (by omega) (by omega) hroom9
                    obtain ⟨A9, hA9⟩ : ∃ A1_, A1_ = (if c0 = (x4_1 : Int).toNat then A0 else (A0 : Option Addr).map (·.add ((x4_1 : Int).toNat * 2))) := ⟨_, rfl⟩
                    obtain ⟨c9, hc9⟩ : ∃ c1, c1 = c0 - (x4_1 : Int).toNat := ⟨_, rfl⟩
                    have hy9 : y138.length = (x5_2 : Int).toNat - (x4_1 : Int).toNat := (by rw [Ny138.out, List.length_drop, List.length_take] <;> omega)
                    rw [show ((l0).take (x5_2 : Int).toNat).drop (x4_1 : Int).toNat = y138 from Ny138.out.symm] at hr9
                    replace hr9 : Kd.C k41 _ A9 y138.length y138 := (by rw [hA9]; exact hr9)
                    rw [← hy9, ← hA9, ← hc9] at hcut9
                    have HR141 := Aside0.mk hr9
                    have HC141 := Aside0.mk (show y138.length ≤ c9 from by rw [hy9, hc9]; exact Nat.sub_le_sub_right (Nat.le_trans (by omega) hroom9) _)
                    clear hr9 hC9 hroom9 hi09 hsz9 hc9
                    have KY9 := Aside0.mk hy9
                    have KA9 := Aside0.mk hA9
                    clear hy9 hA9
                    replace q9 := eq_true q9
                    go_wp2_with (first | ((with_reducible refine gate_callee (f := 24) rfl ?_); refine goesL_ (some 25) rfl rfl Try.func24 (by kernel_rfl) rfl #[.slice A0 l0.length c0, .slice A9 y138.length c9] rfl (by (try simp only [List.map_toArray, List.map_cons, List.map_nil]); first | done | rfl | (simp only [List.length_drop, List.length_take]; rfl)) ?_; (with_reducible refine (licitref27_First.calls k2 _ _ l0 _ _ y138 t142 _ ?side1 ?side2 ?side3 ?side4 A7.out).mono ?_); (case side1 => repeat (first | exact HR0.out | (with_reducible refine Kd.C_alloc ?_ _) | (with_reducible refine Kd.C_drewN ?_ _) | (with_reducible refine Kd.C_drew ?_))); (case side2 => exact HC0.out); (case side3 => repeat (first | exact HR141.out | (with_reducible refine Kd.C_alloc ?_ _) | (with_reducible refine Kd.C_drewN ?_ _) | (with_reducible refine Kd.C_drew ?_))); (case side4 => exact HC141.out); rintro e w' ⟨rfl, ⟨nd, rfl⟩⟩; refine ⟨_, rfl, ?_⟩))
                    go_roundg k2
                    case measure => have := HK1.out; have := HK2.out; omega
                    case rel => exact ⟨(wrap64 (x3_2 + 1)), (wrap64 (x5_2 + 1)), (by first | rfl | (simp; done) | (simp [*]; done)), (by first | rfl | (simp; done) | (simp [*]; done)), H', ⟨by have := HK1.out; have := HK2.out; omega⟩, by repeat (first | exact Drawn0.refl _ | apply Drawn0.step)⟩
                  · rw [if_neg c8] at H
                    have c8b0 : (t142 == x4_1) = false := beq_eq_false_iff_ne.mpr c8
                    have c8b1 : (t142 != x4_1) = true := bne_iff_ne.mpr c8
                    have H' := Aside0.mk H
                    clear H
                    have q10 : (x5_2 : Int) ≤ ((l0.length : Int) : Int) := of_decide_eq_true (by first | (with_reducible assumption) | assumption)
                    obtain ⟨i010, hi010, _, hsz10, _⟩ := info_parts info41
                    have hroom10 : l0.length ≤ c0 := HC0.out
                    have hC10 : Kd.C k41 _ A0 l0.length l0 := HR0.out
                    have ql10 : (x4_1 : Int) ≤ (x5_2 : Int) := of_decide_eq_true (by first | (with_reducible assumption) | assumption)
                    have q010 : (0 : Int) ≤ (x4_1 : Int) := of_decide_eq_true (by first | (with_reducible assumption) | assumption)
                    have hcut10 := cut_mid (P := Try.prog) 22 41 .i64 .i64 Try.underlying22 hi010 2 hsz10 A0 l0.length c0 x4_1 x5_2 q010 ql10 q10 hroom10
                    have hr10 := Kd.C_mid (lo := (x4_1 : Int).toNat) (hi := (x5_2 : Int).toNat) (c := c0) hC10 (by omega) (by omega) hroom10
                    obtain ⟨A10, hA10⟩ : ∃ A1_, A1_ = (if c0 = (x4_1 : Int).toNat then A0 else (A0 : Option Addr).map (·.add ((x4_1 : Int).toNat * 2))) := ⟨_, rfl⟩
                    obtain ⟨c10, hc10⟩ : ∃ c1, c1 = c0 - (x4_1 : Int).toNat := ⟨_, rfl⟩
                    have hy10 : y138.length = (x5_2 : Int).toNat - (x4_1 : Int).toNat := (by rw [Ny138.out, List.length_drop, List.length_take] <;> omega)
                    rw [show ((l0).take (x5_2 : Int).toNat).drop (x4_1 : Int).toNat = y138 from Ny138.out.symm] at hr10
                    replace hr10 : Kd.C k41 _ A10 y138.length y138 := (by rw [hA10]; exact hr10)
                    rw [← hy10, ← hA10, ← hc10] at hcut10
                    have HR141 := Aside0.mk hr10
                    have HC141 := Aside0.mk (show y138.length ≤ c10 from by rw [hy10, hc10]; exact Nat.sub_le_sub_right (Nat.le_trans (by omega) hroom10) _)
                    clear hr10 hC10 hroom10 hi010 hsz10 hc10
                    have KY10 := Aside0.mk hy10
                    have KA10 := Aside0.mk hA10
                    clear hy10 hA10
                    replace q10 := eq_true q10
                    go_wp2_with (first | ((with_reducible refine gate_callee (f := 24) rfl ?_); refine goesL_ (some 25) rfl rfl Try.func24 (by kernel_rfl) rfl #[.slice A0 l0.length c0, .slice A10 y138.length c10] rfl (by (try simp only [List.map_toArray, List.map_cons, List.map_nil]); first | done | rfl | (simp only [List.length_drop, List.length_take]; rfl)) ?_; (with_reducible refine (licitref27_First.calls k2 _ _ l0 _ _ y138 t142 _ ?side1 ?side2 ?side3 ?side4 A7.out).mono ?_); (case side1 => repeat (first | exact HR0.out | (with_reducible refine Kd.C_alloc ?_ _) | (with_reducible refine Kd.C_drewN ?_ _) | (with_reducible refine Kd.C_drew ?_))); (case side2 => exact HC0.out); (case side3 => repeat (first | exact HR141.out | (with_reducible refine Kd.C_alloc ?_ _) | (with_reducible refine Kd.C_drewN ?_ _) | (with_reducible refine Kd.C_drew ?_))); (case side4 => exact HC141.out); rintro e w' ⟨rfl, ⟨nd, rfl⟩⟩; refine ⟨_, rfl, ?_⟩))
                    go_roundg k2
                    case measure => have := HK1.out; have := HK2.out; omega
                    case rel => exact ⟨(x3_2), (wrap64 (x5_2 + 1)), (by first | rfl | (simp; done) | (simp [*]; done)), (by first | rfl | (simp; done) | (simp [*]; done)), H', ⟨by have := HK1.out; have := HK2.out; omega⟩, by repeat (first | exact Drawn0.refl _ | apply Drawn0.step)⟩
                · rw [if_neg c5] at H
                  exact absurd H (by simp)
              · rw [if_neg c4] at H
                exact absurd H (by simp)
            · rw [if_neg c3] at H
              have c3b0 : decide (x5_2 ≤ (l0.length : Int)) = false := decide_eq_false c3
              clear c3
              have H' := Aside0.mk H
              clear H
              go_wp2
              go_roundg k2
              case measure => have := HK1.out; have := HK2.out; omega
              case rel => exact ⟨(x3_2), (wrap64 (x4_1 + 1)), (by first | rfl | (simp; done) | (simp [*]; done)), (by first | rfl | (simp; done) | (simp [*]; done)), H', ⟨by have := HK1.out; have := HK2.out; omega⟩, by repeat (first | exact Drawn0.refl _ | apply Drawn0.step)⟩
      · rw [if_neg c2] at H
        have c2b0 : decide (x4_1 < (l0.length : Int)) = false := decide_eq_false c2
        clear c2
        obtain rfl := Option.some.inj H
        go_wp2
        go_ret
        exact ⟨by first | rfl | (simp; done) | (simp [*]; done), by repeat (first | exact Drawn0.refl _ | apply Drawn0.step)⟩


end Go.Proofs.Ytbakoigejihnaaa.Ref

/- What the reference functions compute, said of the words alone: at, First, Count, alike. -/
set_option linter.unusedSectionVars false
set_option linter.unusedVariables false
namespace Go.Proofs.Ytbakoigejihnaaa.Ref
open Go.RowKit Go.Proofs.YtbakoigejihnaaaW.PrintWords Go.Proofs.YtbakoigejihnaaaW.PrintLast Go.Proofs.YtbakoigejihnaaaW.PrintMore
open Sam (EndsAt Run countS firstS)

/-- with enough steps the function answers r -/
def Ev {β : Type} (f : Nat → Option β) (r : β) : Prop := ∃ k0, ∀ k, k0 ≤ k → f k = some r
theorem Ev.const {β : Type} (r : β) : Ev (fun _ => some r) r := ⟨0, fun _ _ => rfl⟩
theorem Ev.congr {β : Type} {f g : Nat → Option β} {r : β} (h : Ev g r) (e : ∀ k, f k = g k) : Ev f r := let ⟨k0, hk⟩ := h; ⟨k0, fun k hk' => by rw [e, hk k hk']⟩
theorem Ev.step {β : Type} {f : Nat → Option β} {r : β} (h : Ev (fun k => f (k + 1)) r) : Ev f r := by
  obtain ⟨k0, hk⟩ := h
  refine ⟨k0 + 1, fun k hk' => ?_⟩
  obtain ⟨j, rfl⟩ : ∃ j, k = j + 1 := ⟨k - 1, by omega⟩
  exact hk j (by omega)
theorem Ev.bind {β γ : Type} {f : Nat → Option β} {g : Nat → β → Option γ} {a : β} {r : γ} (h : Ev f a) (k : Ev (fun k => g k a) r) : Ev (fun k => (f k).bind (g k)) r := by
  obtain ⟨k0, hk⟩ := h
  obtain ⟨k1, hk1⟩ := k
  exact ⟨max k0 k1, fun k hk' => by simp only [hk k (by omega), Option.bind_some, hk1 k (by omega)]⟩
theorem Ev.get {β : Type} {f : Nat → Option β} {r : β} (h : Ev f r) : ∃ k, f k = some r := let ⟨k0, hk⟩ := h; ⟨k0, hk k0 (Nat.le_refl _)⟩

/-- the words' texts -/
def txt (l : List S41) : List ByteArray := l.map (·.f0)
theorem txt_length (l : List S41) : (txt l).length = l.length := by simp [txt]
theorem txt_take (l : List S41) (n : Nat) : txt (l.take n) = (txt l).take n := by simp [txt, List.map_take]
theorem txt_drop (l : List S41) (n : Nat) : txt (l.drop n) = (txt l).drop n := by simp [txt, List.map_drop]
theorem txt_at (l : List S41) {i : Nat} (hi : i < l.length) : (txt l)[i]? = some (rd_T41 l (i : Nat)).f0 := by
  simp [txt, rd_T41, List.getD, hi]

theorem endsAt_iff {α : Type} {T L : List α} {n : Nat} (h : n + L.length ≤ T.length) : EndsAt T L (n + L.length) ↔ ∀ j, j < L.length → T[n + j]? = L[j]? := by
  unfold EndsAt
  rw [List.suffix_iff_eq_drop]
  have e1 : (T.take (n + L.length)).length = n + L.length := by simp; omega
  rw [e1, Nat.add_sub_cancel]
  constructor
  · rintro ⟨_, h2⟩ j hj
    have := congrArg (fun l => l[j]?) h2
    simp only [List.getElem?_drop, List.getElem?_take] at this
    rw [if_pos (by omega)] at this
    exact this.symm
  · intro h2
    refine ⟨h, ?_⟩
    apply List.ext_getElem?
    intro j
    rw [List.getElem?_drop, List.getElem?_take]
    by_cases hj : j < L.length
    · rw [if_pos (by omega), h2 j hj]
    · rw [if_neg (by omega), List.getElem?_eq_none (by omega)]

theorem bytes_inj {a b : ByteArray} : a.toList = b.toList ↔ a = b := by
  constructor
  · intro h
    rw [ByteArray.toList_eq, ByteArray.toList_eq] at h
    exact ByteArray.ext (Array.toList_inj.mp h)
  · rintro rfl; rfl

theorem w64 {n : Int} (h : -1000000000 ≤ n) (h2 : n ≤ 1000000000) : wrap64 n = n := IntWalk.wrap64_in n (by omega)

section
variable {T L : List S41}

theorem at_loop (n : Nat) (hT : T.length ≤ 100000) (hn : n + L.length ≤ T.length) : ∀ (j i : Nat), i + j = L.length → ∃ b : Bool, (b = true ↔ ∀ p, i ≤ p → p < L.length → (txt T)[n + p]? = (txt L)[p]?) ∧ Ev (fun k => licitref27_at.l0 k T L (n : Nat) (i : Nat)) b
  | 0, i, hi => by
    refine ⟨true, by simp; omega, Ev.step ?_⟩
    refine (Ev.const true).congr fun k => ?_
    simp only [licitref27_at.l0]
    rw [if_neg (by omega)]
  | j + 1, i, hi => by
    have hiL : i < L.length := by omega
    have e1 : wrap64 ((n : Int) + (i : Int)) = ((n + i : Nat) : Int) := by rw [w64 (by omega) (by omega)]; omega
    have e2 : wrap64 ((i : Int) + 1) = ((i + 1 : Nat) : Int) := by rw [w64 (by omega) (by omega)]; omega
    have t1 := txt_at T (i := n + i) (by omega)
    have t2 := txt_at L hiL
    by_cases heq : (rd_T41 T ((n + i : Nat) : Int)).f0 = (rd_T41 L (i : Nat)).f0
    · obtain ⟨b, hb, hev⟩ := at_loop n hT hn j (i + 1) (by omega)
      refine ⟨b, ?_, Ev.step (hev.congr fun k => ?_)⟩
      · rw [hb]
        constructor
        · intro h p hp hpL
          by_cases e : p = i
          · subst e; rw [t1, t2, heq]
          · exact h p (by omega) hpL
        · intro h p hp hpL; exact h p (by omega) hpL
      · simp only [licitref27_at.l0, e1, e2]
        rw [if_pos (by omega), if_pos (by omega), if_pos (by omega), if_pos (by omega), if_pos (bytes_inj.2 heq)]
    · refine ⟨false, ?_, Ev.step ((Ev.const false).congr fun k => ?_)⟩
      · simp only [Bool.false_eq_true, false_iff]
        intro h
        have := h i (Nat.le_refl _) hiL
        rw [t1, t2] at this
        exact heq (by simpa using this)
      · simp only [licitref27_at.l0, e1, e2]
        rw [if_pos (by omega), if_pos (by omega), if_pos (by omega), if_pos (by omega), if_neg (fun h => heq (bytes_inj.1 h))]

theorem at_ev (n : Int) (hT : T.length ≤ 100000) (hL : L.length ≤ 100000) (h1 : -1000000 ≤ n) (h2 : n ≤ 1000000) :
    ∃ b : Bool, (b = true ↔ 0 ≤ n ∧ EndsAt (txt T) (txt L) (n.toNat + L.length)) ∧ Ev (fun k => licitref27_at.f k T L n) b := by
  have e1 : wrap64 (n + (L.length : Int)) = n + (L.length : Int) := w64 (by omega) (by omega)
  by_cases hn : n < 0
  · refine ⟨false, by simp; omega, Ev.step ?_⟩
    refine (Ev.const false).congr fun k => ?_
    simp only [licitref27_at.f, licitref27_at.j0]
    rw [if_pos hn]; simp
  · by_cases hg : n + (L.length : Int) > (T.length : Int)
    · refine ⟨false, ?_, Ev.step ?_⟩
      · simp only [Bool.false_eq_true, false_iff]
        rintro ⟨_, h⟩
        have := h.le
        rw [txt_length] at this
        omega
      · refine (Ev.const false).congr fun k => ?_
        simp only [licitref27_at.f, licitref27_at.j0, e1]
        rw [if_neg hn, if_pos (by simpa using hg)]
    · obtain ⟨m, rfl⟩ : ∃ m : Nat, n = m := ⟨n.toNat, by omega⟩
      obtain ⟨b, hb, hev⟩ := at_loop (T := T) (L := L) m hT (by omega) L.length 0 (by omega)
      refine ⟨b, ?_, Ev.step ?_⟩
      · rw [hb, Int.toNat_natCast]
        have := endsAt_iff (T := txt T) (L := txt L) (n := m) (by rw [txt_length, txt_length]; omega)
        rw [txt_length] at this
        rw [this]
        constructor
        · intro h; exact ⟨by omega, fun j hj => h j (Nat.zero_le _) hj⟩
        · intro h p _ hp; exact h.2 p hp
      · refine hev.congr fun k => ?_
        simp only [licitref27_at.f, licitref27_at.j0, e1]
        rw [if_neg hn, if_neg (by simpa using hg)]
        rfl
end
end Go.Proofs.Ytbakoigejihnaaa.Ref

/- What the reference functions compute, said of the words alone: First, Count, alike, Few, Runs, Ends. -/
set_option linter.unusedSectionVars false
set_option linter.unusedVariables false
namespace Go.Proofs.Ytbakoigejihnaaa.Ref
open Go.RowKit Go.Proofs.YtbakoigejihnaaaW.PrintWords Go.Proofs.YtbakoigejihnaaaW.PrintLast Go.Proofs.YtbakoigejihnaaaW.PrintMore
open Sam (EndsAt Run countS firstS longS endsS nRuns)

section
variable {T L : List S41}

theorem first_loop (hT : T.length ≤ 100000) (hL : L.length ≤ 100000) : ∀ (j p : Nat), p + j = T.length + 1 → (∀ n, n < p → ¬ EndsAt (txt T) (txt L) (n + L.length)) → Ev (fun k => licitref27_First.l0 k T L (p : Nat)) (firstS (txt T) (txt L))
  | j, p, hp, hno => by
    have e1 : wrap64 ((p : Int) + (L.length : Int)) = (p : Int) + (L.length : Int) := w64 (by omega) (by omega)
    have e2 : wrap64 ((p : Int) + 1) = ((p + 1 : Nat) : Int) := by rw [w64 (by omega) (by omega)]; omega
    by_cases hg : (p : Int) + (L.length : Int) ≤ (T.length : Int)
    · obtain ⟨b, hb, hev⟩ := at_ev (T := T) (L := L) (p : Int) hT hL (by omega) (by omega)
      rw [Int.toNat_natCast] at hb
      cases b with
      | true =>
        have he := (hb.1 rfl).2
        have hf : firstS (txt T) (txt L) = (p : Int) := by
          rw [Sam.firstS_of he, txt_length]
          · omega
          · intro e' he'
            have hl := he'.len
            rw [txt_length] at hl
            rcases Nat.lt_or_ge e' (p + L.length) with g | g
            · exact (hno (e' - L.length) (by omega) (by rwa [Nat.sub_add_cancel hl])).elim
            · exact g
        refine Ev.step ?_
        simp only [licitref27_First.l0, e1, e2]
        refine Ev.congr (g := fun k => (licitref27_at.f k T L p).bind fun t114 => (if t114 = true then (some (p : Int)) else (licitref27_First.l0 k T L ((p + 1 : Nat) : Int)))) ?_ (fun k => if_pos hg)
        refine Ev.bind hev ?_
        rw [hf]
        exact Ev.const _
      | false =>
        have hne : ¬ EndsAt (txt T) (txt L) (p + L.length) := fun he => by simpa using hb.2 ⟨by omega, he⟩
        cases j with
        | zero => omega
        | succ j =>
          have ih := first_loop hT hL j (p + 1) (by omega) (by
            intro n hn
            by_cases e : n = p
            · subst e; exact hne
            · exact hno n (by omega))
          refine Ev.step ?_
          simp only [licitref27_First.l0, e1, e2]
          refine Ev.congr (g := fun k => (licitref27_at.f k T L p).bind fun t114 => (if t114 = true then (some (p : Int)) else (licitref27_First.l0 k T L ((p + 1 : Nat) : Int)))) ?_ (fun k => if_pos hg)
          refine Ev.bind hev ?_
          exact ih.congr fun k => by simp
    · refine Ev.step ?_
      have hf : firstS (txt T) (txt L) = -1 := by
        apply Sam.firstS_none
        rintro ⟨e, he⟩
        have hl := he.len
        have hle := he.le
        rw [txt_length] at hl hle
        rcases Nat.lt_or_ge (e - L.length) p with g | g
        · exact hno _ g (by rwa [Nat.sub_add_cancel hl])
        · omega
      rw [hf]
      simp only [licitref27_First.l0, e1]
      exact (Ev.const _).congr fun k => if_neg hg

theorem first_ev (hT : T.length ≤ 100000) (hL : L.length ≤ 100000) : Ev (fun k => licitref27_First.f k T L) (firstS (txt T) (txt L)) :=
  first_loop hT hL (T.length + 1) 0 (by omega) (fun n hn => by omega)

theorem count_loop (hT : T.length ≤ 100000) (hL : L.length ≤ 100000) : ∀ (j p out : Nat), p + j = T.length + 1 → out ≤ p → Ev (fun k => licitref27_Count.l0 k T L (out : Nat) (p : Nat)) ((out + (List.range' (p + L.length) (T.length + 1 - (p + L.length))).countP (fun e => decide (EndsAt (txt T) (txt L) e)) : Nat) : Int)
  | j, p, out, hp, hout => by
    have e1 : wrap64 ((p : Int) + (L.length : Int)) = (p : Int) + (L.length : Int) := w64 (by omega) (by omega)
    have e2 : wrap64 ((p : Int) + 1) = ((p + 1 : Nat) : Int) := by rw [w64 (by omega) (by omega)]; omega
    have e3 : wrap64 ((out : Int) + 1) = ((out + 1 : Nat) : Int) := by rw [w64 (by omega) (by omega)]; omega
    by_cases hg : (p : Int) + (L.length : Int) ≤ (T.length : Int)
    · obtain ⟨b, hb, hev⟩ := at_ev (T := T) (L := L) (p : Int) hT hL (by omega) (by omega)
      rw [Int.toNat_natCast] at hb
      cases j with
      | zero => omega
      | succ j =>
        have hr : T.length + 1 - (p + L.length) = (T.length + 1 - (p + 1 + L.length)) + 1 := by omega
        rw [hr, List.range'_succ, List.countP_cons, show p + L.length + 1 = p + 1 + L.length by omega]
        refine Ev.step ?_
        simp only [licitref27_Count.l0, e1, e2, e3]
        refine Ev.congr (g := fun k => (licitref27_at.f k T L p).bind fun t115 => (if t115 = true then (licitref27_Count.l0 k T L ((out + 1 : Nat) : Int) ((p + 1 : Nat) : Int)) else (licitref27_Count.l0 k T L out ((p + 1 : Nat) : Int)))) ?_ (fun k => if_pos hg)
        refine Ev.bind hev ?_
        cases b with
        | true =>
          have he := (hb.1 rfl).2
          have ih := count_loop hT hL j (p + 1) (out + 1) (by omega) (by omega)
          rw [if_pos (by simpa using he)]
          rw [show out + 1 + List.countP (fun e => decide (EndsAt (txt T) (txt L) e)) (List.range' (p + 1 + L.length) (T.length + 1 - (p + 1 + L.length))) = out + (List.countP (fun e => decide (EndsAt (txt T) (txt L) e)) (List.range' (p + 1 + L.length) (T.length + 1 - (p + 1 + L.length))) + 1) by omega] at ih
          exact ih.congr fun k => by simp
        | false =>
          have hne : ¬ EndsAt (txt T) (txt L) (p + L.length) := fun he => by simpa using hb.2 ⟨by omega, he⟩
          have ih := count_loop hT hL j (p + 1) out (by omega) (by omega)
          rw [if_neg (by simpa using hne)]
          exact ih.congr fun k => by simp
    · refine Ev.step ?_
      rw [show T.length + 1 - (p + L.length) = 0 by omega]
      simp only [licitref27_Count.l0, e1]
      exact (Ev.const _).congr fun k => by rw [if_neg hg]; simp

theorem count_ev (hT : T.length ≤ 100000) (hL : L.length ≤ 100000) : Ev (fun k => licitref27_Count.f k T L) ((countS (txt T) (txt L) : Nat) : Int) := by
  have := count_loop (T := T) (L := L) hT hL (T.length + 1) 0 0 (by omega) (by omega)
  have e : countS (txt T) (txt L) = 0 + (List.range' (0 + L.length) (T.length + 1 - (0 + L.length))).countP (fun e => decide (EndsAt (txt T) (txt L) e)) := by
    rw [Nat.zero_add, Nat.zero_add]
    unfold countS
    rw [txt_length]
    have hz : ∀ (R : List Nat), (∀ e, e ∈ R → e < L.length) → R.countP (fun e => decide (EndsAt (txt T) (txt L) e)) = 0 := by
      intro R hR
      rw [List.countP_eq_zero]
      intro e he h
      have h' : EndsAt (txt T) (txt L) e := by simpa using h
      have := h'.len
      rw [txt_length] at this
      have := hR e he; omega
    by_cases hle : L.length ≤ T.length + 1
    · have : List.range (T.length + 1) = List.range' 0 L.length ++ List.range' L.length (T.length + 1 - L.length) := by
        rw [List.range_eq_range']
        have := List.range'_append (s := 0) (m := L.length) (n := T.length + 1 - L.length) (step := 1)
        rw [show 0 + 1 * L.length = L.length by omega] at this
        rw [this]; congr 1; omega
      rw [this, List.countP_append, hz (List.range' 0 L.length) (by intro e he; simp [List.mem_range'_1] at he; omega)]
      omega
    · rw [show T.length + 1 - L.length = 0 by omega]
      simp only [List.range'_zero, List.countP_nil]
      exact hz _ (by intro e he; simp at he; omega)
  rw [e]
  exact this

theorem alike_loop {a b : List S41} (hT : T.length ≤ 100000) (ha : a.length ≤ 100000) (hb : b.length ≤ 100000) : ∀ (j p : Nat), p + j = T.length + 1 → ∃ r : Bool, (r = true ↔ ∀ n, p ≤ n → n ≤ T.length → (EndsAt (txt T) (txt a) n ↔ EndsAt (txt T) (txt b) n)) ∧ Ev (fun k => licitref27_alike.l0 k T a b (p : Nat)) r
  | 0, p, hp => by
    refine ⟨true, by simp; omega, Ev.step ((Ev.const true).congr fun k => ?_)⟩
    simp only [licitref27_alike.l0]
    rw [if_neg (by omega)]
  | j + 1, p, hp => by
    have e1 : wrap64 ((p : Int) - (a.length : Int)) = (p : Int) - (a.length : Int) := w64 (by omega) (by omega)
    have e2 : wrap64 ((p : Int) - (b.length : Int)) = (p : Int) - (b.length : Int) := w64 (by omega) (by omega)
    have e3 : wrap64 ((p : Int) + 1) = ((p + 1 : Nat) : Int) := by rw [w64 (by omega) (by omega)]; omega
    obtain ⟨x, hx, hxe⟩ := at_ev (T := T) (L := a) ((p : Int) - (a.length : Int)) hT ha (by omega) (by omega)
    obtain ⟨y, hy, hye⟩ := at_ev (T := T) (L := b) ((p : Int) - (b.length : Int)) hT hb (by omega) (by omega)
    have conv : ∀ c : List S41, (0 ≤ (p : Int) - (c.length : Int) ∧ EndsAt (txt T) (txt c) (((p : Int) - (c.length : Int)).toNat + c.length)) ↔ EndsAt (txt T) (txt c) p := by
      intro c
      constructor
      · rintro ⟨h1, h2⟩
        rwa [show ((p : Int) - (c.length : Int)).toNat + c.length = p by omega] at h2
      · intro h
        have := h.len
        rw [txt_length] at this
        exact ⟨by omega, by rwa [show ((p : Int) - (c.length : Int)).toNat + c.length = p by omega]⟩
    rw [conv] at hx hy
    obtain ⟨r, hr, hre⟩ := alike_loop hT ha hb j (p + 1) (by omega)
    by_cases hxy : x = y
    · refine ⟨r, ?_, Ev.step ?_⟩
      · rw [hr]
        constructor
        · intro h n hn hnT
          by_cases e : n = p
          · subst e; rw [← hx, ← hy, hxy]
          · exact h n (by omega) hnT
        · intro h n hn hnT; exact h n (by omega) hnT
      · simp only [licitref27_alike.l0, e1, e2, e3]
        refine Ev.congr (g := fun k => (licitref27_at.f k T a ((p : Int) - (a.length : Int))).bind fun t114 => ((licitref27_at.f k T b ((p : Int) - (b.length : Int))).bind fun t115 => (if (t114 != t115) = true then (some false) else (licitref27_alike.l0 k T a b ((p + 1 : Nat) : Int))))) ?_ (fun k => if_pos (by omega))
        refine Ev.bind hxe (Ev.bind hye ?_)
        exact hre.congr fun k => if_neg (by simp [hxy])
    · refine ⟨false, ?_, Ev.step ?_⟩
      · simp only [Bool.false_eq_true, false_iff]
        intro h
        have := h p (Nat.le_refl _) (by omega)
        rw [← hx, ← hy] at this
        apply hxy
        cases x <;> cases y <;> simp_all
      · simp only [licitref27_alike.l0, e1, e2, e3]
        refine Ev.congr (g := fun k => (licitref27_at.f k T a ((p : Int) - (a.length : Int))).bind fun t114 => ((licitref27_at.f k T b ((p : Int) - (b.length : Int))).bind fun t115 => (if (t114 != t115) = true then (some false) else (licitref27_alike.l0 k T a b ((p + 1 : Nat) : Int))))) ?_ (fun k => if_pos (by omega))
        refine Ev.bind hxe (Ev.bind hye ?_)
        exact (Ev.const false).congr fun k => if_pos (by cases x <;> cases y <;> simp_all)

theorem alike_ev {a b : List S41} (hT : T.length ≤ 100000) (ha : a.length ≤ 100000) (hb : b.length ≤ 100000) : ∃ r : Bool, (r = true ↔ Sam.Alike (txt T) (txt a) (txt b)) ∧ Ev (fun k => licitref27_alike.f k T a b) r := by
  obtain ⟨r, h1, h2⟩ := alike_loop (T := T) (a := a) (b := b) hT ha hb (T.length + 1) 0 (by omega)
  refine ⟨r, ?_, h2⟩
  rw [h1]
  constructor
  · intro h e
    by_cases he : e ≤ T.length
    · exact h e (Nat.zero_le _) he
    · exact ⟨fun k => absurd (by have := k.le; rwa [txt_length] at this) he, fun k => absurd (by have := k.le; rwa [txt_length] at this) he⟩
  · intro h n _ _; exact h n

theorem few24_loop (hT : T.length ≤ 100000) : ∀ (j i : Nat), i + j = T.length → ∃ b : Bool, Ev (fun k => licitref24_Few.l0 k T (i : Nat)) b
  | 0, i, hi => ⟨true, Ev.step ((Ev.const true).congr fun k => by simp only [licitref24_Few.l0]; rw [if_neg (by omega)])⟩
  | j + 1, i, hi => by
    have e2 : wrap64 ((i : Int) + 1) = ((i + 1 : Nat) : Int) := by rw [w64 (by omega) (by omega)]; omega
    by_cases hs : (((rd_T41 T (i : Nat)).f0).size : Int) > 40
    · exact ⟨false, Ev.step ((Ev.const false).congr fun k => by simp only [licitref24_Few.l0]; rw [if_pos (by omega), if_pos (by omega), if_pos hs])⟩
    · obtain ⟨b, hb⟩ := few24_loop hT j (i + 1) (by omega)
      exact ⟨b, Ev.step (hb.congr fun k => by simp only [licitref24_Few.l0, e2]; rw [if_pos (by omega), if_pos (by omega), if_neg hs])⟩

theorem few24_ev (T : List S41) : ∃ b : Bool, (b = true → T.length ≤ 40) ∧ Ev (fun k => licitref24_Few.f k T) b := by
  by_cases h : (T.length : Int) > 40
  · exact ⟨false, by simp, (Ev.const false).congr fun k => by simp only [licitref24_Few.f]; rw [if_pos h]⟩
  · obtain ⟨b, hb⟩ := few24_loop (T := T) (by omega) T.length 0 (by omega)
    exact ⟨b, fun _ => by omega, hb.congr fun k => by simp only [licitref24_Few.f]; rw [if_neg h]; rfl⟩

theorem few27_loop (hT : T.length ≤ 100000) : ∀ (j i : Nat), i + j = T.length → ∃ b : Bool, Ev (fun k => licitref27_Few.l0 k T (i : Nat)) b
  | 0, i, hi => ⟨true, Ev.step ((Ev.const true).congr fun k => by simp only [licitref27_Few.l0]; rw [if_neg (by omega)])⟩
  | j + 1, i, hi => by
    have e2 : wrap64 ((i : Int) + 1) = ((i + 1 : Nat) : Int) := by rw [w64 (by omega) (by omega)]; omega
    by_cases hs : (((rd_T41 T (i : Nat)).f0).size : Int) > 40
    · exact ⟨false, Ev.step ((Ev.const false).congr fun k => by simp only [licitref27_Few.l0]; rw [if_pos (by omega), if_pos (by omega), if_pos hs])⟩
    · obtain ⟨b, hb⟩ := few27_loop hT j (i + 1) (by omega)
      exact ⟨b, Ev.step (hb.congr fun k => by simp only [licitref27_Few.l0, e2]; rw [if_pos (by omega), if_pos (by omega), if_neg hs])⟩

theorem few27_ev (T : List S41) : ∃ b : Bool, (b = true → T.length ≤ 14) ∧ Ev (fun k => licitref27_Few.f k T) b := by
  by_cases h : (T.length : Int) > 14
  · exact ⟨false, by simp, (Ev.const false).congr fun k => by simp only [licitref27_Few.f]; rw [if_pos h]⟩
  · obtain ⟨b, hb⟩ := few27_loop (T := T) (by omega) T.length 0 (by omega)
    exact ⟨b, fun _ => by omega, hb.congr fun k => by simp only [licitref27_Few.f]; rw [if_neg h]; rfl⟩
end
end Go.Proofs.Ytbakoigejihnaaa.Ref

/- What the reference functions compute, said of the words alone: Runs, States. -/
set_option linter.unusedSectionVars false
set_option linter.unusedVariables false
namespace Go.Proofs.Ytbakoigejihnaaa.Ref
open Go.RowKit Go.Proofs.YtbakoigejihnaaaW.PrintWords Go.Proofs.YtbakoigejihnaaaW.PrintLast Go.Proofs.YtbakoigejihnaaaW.PrintMore
open Sam (EndsAt Run countS firstS longS endsS nRuns)

section
variable {T L : List S41}

/-- the runs that begin at i and are the first of their kind -/
def firstsAt (W : List ByteArray) (i : Nat) : List (List ByteArray) := ((List.range (W.length - i)).map fun j => (W.take (i + 1 + j)).drop i).filter fun r => decide (firstS W r = (i : Int))
def isFirst (W : List ByteArray) (i j : Nat) : Bool := decide (firstS W ((W.take (i + 1 + j)).drop i) = (i : Int))
theorem firstsAt_length (W : List ByteArray) (i : Nat) : (firstsAt W i).length = (List.range (W.length - i)).countP (isFirst W i) := by
  unfold firstsAt
  rw [← List.countP_eq_length_filter, List.countP_map]
  rfl

theorem runs_inner (hT : T.length ≤ 1000) (i : Nat) (hi : i < T.length) (r : Nat) (M : Nat) (hM : M ≤ 1000000) (hnext : ∀ x : Nat, x ≤ M → Ev (fun k => licitref27_Runs.l0 k T (x : Nat) ((i + 1 : Nat) : Int)) ((x + r : Nat) : Int)) :
    ∀ (m j x : Nat), j + m = T.length - i → x + m ≤ M → Ev (fun k => licitref27_Runs.l1 k T (x : Nat) (i : Nat) ((i + 1 + j : Nat) : Int)) ((x + ((List.range' j m).countP (isFirst (txt T) i) + r) : Nat) : Int)
  | 0, j, x, hj, hx => by
    have e2 : wrap64 ((i : Int) + 1) = ((i + 1 : Nat) : Int) := by rw [w64 (by omega) (by omega)]; omega
    rw [List.range'_zero, List.countP_nil, Nat.zero_add]
    refine Ev.step ((hnext x (by omega)).congr fun k => ?_)
    simp only [licitref27_Runs.l1, e2]
    rw [if_neg (by omega)]
  | m + 1, j, x, hj, hx => by
    have e2 : wrap64 (((i + 1 + j : Nat) : Int) + 1) = ((i + 1 + (j + 1) : Nat) : Int) := by rw [w64 (by omega) (by omega)]; omega
    have e3 : wrap64 ((x : Int) + 1) = ((x + 1 : Nat) : Int) := by rw [w64 (by omega) (by omega)]; omega
    have hf := first_ev (T := T) (L := (T.take (i + 1 + j)).drop i) (by omega) (by simp; omega)
    rw [txt_drop, txt_take] at hf
    rw [List.range'_succ, List.countP_cons]
    by_cases hs : firstS (txt T) (((txt T).take (i + 1 + j)).drop i) = (i : Int)
    · have ih := runs_inner hT i hi r M hM hnext m (j + 1) (x + 1) (by omega) (by omega)
      have hb : isFirst (txt T) i j = true := by simp [isFirst, hs]
      rw [if_pos hb]
      refine Ev.step ?_
      simp only [licitref27_Runs.l1, e2, e3, Int.toNat_natCast]
      refine Ev.congr (g := fun k => (licitref27_First.f k T ((T.take (i + 1 + j)).drop i)).bind fun t142 => (if t142 = (i : Int) then (licitref27_Runs.l1 k T ((x + 1 : Nat) : Int) (i : Nat) ((i + 1 + (j + 1) : Nat) : Int)) else (licitref27_Runs.l1 k T (x : Nat) (i : Nat) ((i + 1 + (j + 1) : Nat) : Int)))) ?_ (fun k => by rw [if_pos (by omega), if_pos (by omega), if_pos (by omega)])
      refine Ev.bind hf ?_
      rw [show x + (List.countP (isFirst (txt T) i) (List.range' (j + 1) m) + 1 + r) = x + 1 + (List.countP (isFirst (txt T) i) (List.range' (j + 1) m) + r) by omega]
      exact ih.congr fun k => if_pos hs
    · have ih := runs_inner hT i hi r M hM hnext m (j + 1) x (by omega) (by omega)
      have hb : ¬ isFirst (txt T) i j = true := by simp [isFirst, hs]
      rw [if_neg hb]
      refine Ev.step ?_
      simp only [licitref27_Runs.l1, e2, e3, Int.toNat_natCast]
      refine Ev.congr (g := fun k => (licitref27_First.f k T ((T.take (i + 1 + j)).drop i)).bind fun t142 => (if t142 = (i : Int) then (licitref27_Runs.l1 k T ((x + 1 : Nat) : Int) (i : Nat) ((i + 1 + (j + 1) : Nat) : Int)) else (licitref27_Runs.l1 k T (x : Nat) (i : Nat) ((i + 1 + (j + 1) : Nat) : Int)))) ?_ (fun k => by rw [if_pos (by omega), if_pos (by omega), if_pos (by omega)])
      refine Ev.bind hf ?_
      rw [Nat.add_zero]
      exact ih.congr fun k => if_neg hs

theorem runs_outer (hT : T.length ≤ 900) : ∀ (m i x : Nat), i + m = T.length → x + m * 1000 ≤ 1000000 → Ev (fun k => licitref27_Runs.l0 k T (x : Nat) (i : Nat)) ((x + ((List.range' i m).flatMap (firstsAt (txt T))).length : Nat) : Int)
  | 0, i, x, hi, hx => by
    refine Ev.step ((Ev.const _).congr fun k => ?_)
    simp only [licitref27_Runs.l0]
    rw [if_neg (by omega)]; simp
  | m + 1, i, x, hi, hx => by
    have e2 : wrap64 ((i : Int) + 1) = ((i + 1 + 0 : Nat) : Int) := by rw [w64 (by omega) (by omega)]; omega
    have ih := fun x' (h : x' + m * 1000 ≤ 1000000) => runs_outer hT m (i + 1) x' (by omega) h
    refine Ev.step ?_
    simp only [licitref27_Runs.l0, e2]
    rw [List.range'_succ, List.flatMap_cons, List.length_append, firstsAt_length, txt_length, List.range_eq_range']
    refine Ev.congr (g := fun k => licitref27_Runs.l1 k T (x : Nat) (i : Nat) ((i + 1 + 0 : Nat) : Int)) ?_ (fun k => if_pos (by omega))
    exact runs_inner (by omega) i (by omega) _ (x + 1000) (by omega) (fun x' hx' => ih x' (by omega)) (T.length - i) 0 x (by omega) (by omega)

theorem runs_ev (hT : T.length ≤ 900) : Ev (fun k => licitref27_Runs.f k T) ((nRuns (txt T) : Nat) : Int) := by
  have := runs_outer hT T.length 0 0 (by omega) (by omega)
  rw [← List.range_eq_range', Nat.zero_add] at this
  have e : nRuns (txt T) = ((List.range T.length).flatMap (firstsAt (txt T))).length := by
    unfold nRuns Sam.runsList
    rw [txt_length]; unfold firstsAt; rw [txt_length]
  rw [e]
  exact this
end
end Go.Proofs.Ytbakoigejihnaaa.Ref

/- What the reference function States computes: how many classes of runs there are. -/
set_option linter.unusedSectionVars false
set_option linter.unusedVariables false
namespace Go.Proofs.Ytbakoigejihnaaa.Ref
open Go.RowKit Go.Proofs.YtbakoigejihnaaaW.PrintWords Go.Proofs.YtbakoigejihnaaaW.PrintLast Go.Proofs.YtbakoigejihnaaaW.PrintMore
open Sam (EndsAt Run countS firstS longS endsS nRuns)

section
variable {T : List S41}

def cut (T : List S41) (i k : Nat) : List S41 := (T.take k).drop i
theorem txt_cut (T : List S41) (i k : Nat) : txt (cut T i k) = ((txt T).take k).drop i := by unfold cut; rw [txt_drop, txt_take]

/-- the kinds when all runs that begin before i, and those from i to before k, have been seen -/
structure Kinds (T : List S41) (i k : Nat) (K : List (List S41)) : Prop where
  run : ∀ x, x ∈ K → Run (txt T) (txt x)
  apart : K.Pairwise fun x y => ¬ Sam.Alike (txt T) (txt x) (txt y)
  nil : ∃ x, x ∈ K ∧ txt x = []
  seen : ∀ a b, a < b → b ≤ T.length → a < i ∨ (a = i ∧ b < k) → ∃ x, x ∈ K ∧ Sam.Alike (txt T) (txt x) (txt (cut T a b))
  small : ∀ x, x ∈ K → x.length ≤ T.length

theorem run_cut {i k : Nat} (hk : k ≤ T.length) : Run (txt T) (txt (cut T i k)) := by
  rw [txt_cut]
  exact ⟨k, Sam.endsAt_cut (by rw [txt_length]; exact hk)⟩

theorem Kinds.start (T : List S41) : Kinds T 0 0 [[]] where
  run x hx := by
    simp only [List.mem_singleton] at hx; subst hx
    exact Sam.run_nil _
  apart := List.pairwise_singleton _ _
  nil := ⟨[], by simp, rfl⟩
  seen a b _ _ h := by omega
  small x hx := by simp only [List.mem_singleton] at hx; subst hx; simp

theorem Kinds.known {i k : Nat} {K : List (List S41)} (h : Kinds T i k K) (hik : i < k) (hk : k ≤ T.length) {x : List S41} (hx : x ∈ K) (hal : Sam.Alike (txt T) (txt x) (txt (cut T i k))) : Kinds T i (k + 1) K :=
  ⟨h.run, h.apart, h.nil, fun a b hab hb hc => by
    by_cases e : a = i ∧ b = k
    · obtain ⟨rfl, rfl⟩ := e; exact ⟨x, hx, hal⟩
    · exact h.seen a b hab hb (by omega), h.small⟩

theorem Kinds.fresh {i k : Nat} {K : List (List S41)} (h : Kinds T i k K) (hik : i < k) (hk : k ≤ T.length) (hno : ∀ x, x ∈ K → ¬ Sam.Alike (txt T) (txt x) (txt (cut T i k))) : Kinds T i (k + 1) (K ++ [cut T i k]) where
  run x hx := by
    rcases List.mem_append.1 hx with hx | hx
    · exact h.run x hx
    · simp only [List.mem_singleton] at hx; subst hx; exact run_cut hk
  apart := by
    rw [List.pairwise_append]
    refine ⟨h.apart, List.pairwise_singleton _ _, ?_⟩
    intro x hx y hy
    simp only [List.mem_singleton] at hy; subst hy
    exact hno x hx
  nil := let ⟨x, hx, hx'⟩ := h.nil; ⟨x, List.mem_append_left _ hx, hx'⟩
  seen a b hab hb hc := by
    by_cases e : a = i ∧ b = k
    · obtain ⟨rfl, rfl⟩ := e; exact ⟨_, List.mem_append_right _ (List.mem_singleton.2 rfl), Sam.Alike.refl _ _⟩
    · obtain ⟨x, hx, hal⟩ := h.seen a b hab hb (by omega)
      exact ⟨x, List.mem_append_left _ hx, hal⟩
  small x hx := by
    rcases List.mem_append.1 hx with hx | hx
    · exact h.small x hx
    · simp only [List.mem_singleton] at hx; subst hx; simp [cut]; omega

theorem Kinds.next {i k : Nat} {K : List (List S41)} (h : Kinds T i k K) (hk : T.length < k) : Kinds T (i + 1) (i + 2) K :=
  ⟨h.run, h.apart, h.nil, fun a b hab hb hc => h.seen a b hab hb (by omega), h.small⟩

def Fine (T : List S41) (r : Int) : Prop := ∃ K : List (List S41), r = (K.length : Nat) ∧ Kinds T T.length 0 K

theorem rd_L3_mem {K : List (List S41)} {n : Nat} (hn : n < K.length) : rd_L3 K (n : Nat) ∈ K := by
  unfold rd_L3
  rw [Int.toNat_natCast, List.getD_eq_getElem?_getD, List.getElem?_eq_getElem hn]; simp

theorem states_l2 (hT : T.length ≤ 14) (i k : Nat) (hik : i < k) (hk : k ≤ T.length) (K : List (List S41)) (hK : Kinds T i k K) (hl : K.length ≤ 2 + i * 20 + k)
    (hnext : ∀ K', Kinds T i (k + 1) K' → K'.length ≤ 2 + i * 20 + (k + 1) → ∃ r, Fine T r ∧ Ev (fun f => licitref27_States.l1 f T K' (i : Nat) ((k + 1 : Nat) : Int)) r) :
    ∀ (m n : Nat) (b : Bool), n + m = K.length → (b = true → ∃ x, x ∈ K ∧ Sam.Alike (txt T) (txt x) (txt (cut T i k))) → (b = false → ∀ p, p < n → ¬ Sam.Alike (txt T) (txt (rd_L3 K (p : Nat))) (txt (cut T i k))) →
      ∃ r, Fine T r ∧ Ev (fun f => licitref27_States.l2 f T K (i : Nat) (k : Nat) b (n : Nat)) r
  | 0, n, true, hn, h1, h2 => by
    have e3 : wrap64 ((k : Int) + 1) = ((k + 1 : Nat) : Int) := by rw [w64 (by omega) (by omega)]; omega
    obtain ⟨x, hx, hal⟩ := h1 rfl
    obtain ⟨r, hr, hev⟩ := hnext K (hK.known hik hk hx hal) (by omega)
    refine ⟨r, hr, Ev.step (hev.congr fun f => ?_)⟩
    simp only [licitref27_States.l2, e3]
    rw [if_neg (by omega), if_pos trivial]
  | 0, n, false, hn, h1, h2 => by
    have e3 : wrap64 ((k : Int) + 1) = ((k + 1 : Nat) : Int) := by rw [w64 (by omega) (by omega)]; omega
    have hno : ∀ x, x ∈ K → ¬ Sam.Alike (txt T) (txt x) (txt (cut T i k)) := by
      intro x hx
      obtain ⟨p, hp, rfl⟩ := List.getElem_of_mem hx
      have := h2 rfl p (by omega)
      rwa [show rd_L3 K (p : Nat) = K[p] by unfold rd_L3; simp [List.getD, hp]] at this
    obtain ⟨r, hr, hev⟩ := hnext _ (hK.fresh hik hk hno) (by simp; omega)
    refine ⟨r, hr, Ev.step (hev.congr fun f => ?_)⟩
    simp only [licitref27_States.l2, e3]
    rw [if_neg (by omega), if_neg (by simp), if_pos (by omega), if_pos (by omega), if_pos (by omega), if_pos (by omega)]
    rfl
  | m + 1, n, true, hn, h1, h2 => by
    have e3 : wrap64 ((n : Int) + 1) = ((n + 1 : Nat) : Int) := by rw [w64 (by omega) (by omega)]; omega
    obtain ⟨r, hr, hev⟩ := states_l2 hT i k hik hk K hK hl hnext m (n + 1) true (by omega) h1 (by simp)
    refine ⟨r, hr, Ev.step (hev.congr fun f => ?_)⟩
    simp only [licitref27_States.l2, e3]
    rw [if_pos (by omega), if_pos trivial]
  | m + 1, n, false, hn, h1, h2 => by
    have e3 : wrap64 ((n : Int) + 1) = ((n + 1 : Nat) : Int) := by rw [w64 (by omega) (by omega)]; omega
    have hmem := rd_L3_mem (K := K) (n := n) (by omega)
    obtain ⟨b, hb, hbe⟩ := alike_ev (T := T) (a := rd_L3 K (n : Nat)) (b := cut T i k) (by omega) (by have := hK.small _ hmem; omega) (by simp [cut]; omega)
    obtain ⟨r, hr, hev⟩ := states_l2 hT i k hik hk K hK hl hnext m (n + 1) b (by omega) (fun h => ⟨_, hmem, hb.1 h⟩) (fun h p hp => by
      by_cases e : p = n
      · subst e; intro ha; rw [hb.2 ha] at h; simp at h
      · exact h2 rfl p (by omega))
    refine ⟨r, hr, Ev.step ?_⟩
    simp only [licitref27_States.l2, e3]
    refine Ev.congr (g := fun f => (licitref27_alike.f f T (rd_L3 K (n : Nat)) (cut T i k)).bind fun t128 => (licitref27_States.l2 f T K (i : Nat) (k : Nat) t128 ((n + 1 : Nat) : Int))) (Ev.bind hbe hev) (fun f => ?_)
    rw [if_pos (by omega), if_neg (by simp), if_pos (by omega), if_pos (by omega), if_pos (by omega), if_pos (by omega)]
    rfl

theorem states_l1 (hT : T.length ≤ 14) (i : Nat) (hi : i < T.length)
    (hnext : ∀ K', Kinds T (i + 1) (i + 2) K' → K'.length ≤ 2 + (i + 1) * 20 → ∃ r, Fine T r ∧ Ev (fun f => licitref27_States.l0 f T K' ((i + 1 : Nat) : Int)) r) :
    ∀ (m k : Nat) (K : List (List S41)), k + m = T.length + 1 → i < k → Kinds T i k K → K.length ≤ 2 + i * 20 + k → ∃ r, Fine T r ∧ Ev (fun f => licitref27_States.l1 f T K (i : Nat) (k : Nat)) r
  | 0, k, K, hk, hik, hK, hl => by
    have e3 : wrap64 ((i : Int) + 1) = ((i + 1 : Nat) : Int) := by rw [w64 (by omega) (by omega)]; omega
    obtain ⟨r, hr, hev⟩ := hnext K (hK.next (by omega)) (by omega)
    refine ⟨r, hr, Ev.step (hev.congr fun f => ?_)⟩
    simp only [licitref27_States.l1, e3]
    rw [if_neg (by omega)]
  | m + 1, k, K, hk, hik, hK, hl => by
    obtain ⟨r, hr, hev⟩ := states_l2 hT i k hik (by omega) K hK hl (fun K' h1 h2 => states_l1 hT i hi hnext m (k + 1) K' (by omega) (by omega) h1 h2) K.length 0 false (by omega) (by simp) (by intro _ p hp; omega)
    refine ⟨r, hr, Ev.step (hev.congr fun f => ?_)⟩
    simp only [licitref27_States.l1]
    rw [if_pos (by omega)]
    rfl

theorem states_l0 (hT : T.length ≤ 14) : ∀ (m i : Nat) (K : List (List S41)), i + m = T.length → Kinds T i (i + 1) K → K.length ≤ 2 + i * 20 → ∃ r, Fine T r ∧ Ev (fun f => licitref27_States.l0 f T K (i : Nat)) r
  | 0, i, K, hi, hK, hl => by
    refine ⟨(K.length : Nat), ⟨K, rfl, ⟨hK.run, hK.apart, hK.nil, fun a b hab hb hc => hK.seen a b hab hb (by omega), hK.small⟩⟩, Ev.step ((Ev.const _).congr fun f => ?_)⟩
    simp only [licitref27_States.l0]
    rw [if_neg (by omega)]
  | m + 1, i, K, hi, hK, hl => by
    have e3 : wrap64 ((i : Int) + 1) = ((i + 1 : Nat) : Int) := by rw [w64 (by omega) (by omega)]; omega
    obtain ⟨r, hr, hev⟩ := states_l1 hT i (by omega) (fun K' h1 h2 => states_l0 hT m (i + 1) K' (by omega) h1 h2) (T.length - i) (i + 1) K (by omega) (by omega) hK (by omega)
    refine ⟨r, hr, Ev.step (hev.congr fun f => ?_)⟩
    simp only [licitref27_States.l0, e3]
    rw [if_pos (by omega)]

theorem states_ev (hT : T.length ≤ 14) {A : Sam.Auto ByteArray} {rep : Nat → List ByteArray} (hg : Sam.Inv (txt T) A rep) : Ev (fun k => licitref27_States.f k T) ((A.m : Nat) : Int) := by
  have h0 := Kinds.start T
  obtain ⟨r, ⟨K, hr, hK⟩, hev⟩ := states_l0 hT T.length 0 [[]] (by omega) ⟨h0.run, h0.apart, h0.nil, fun a b hab hb hc => by omega, h0.small⟩ (by simp)
  have hm : (K.map txt).length = A.m := by
    refine hg.classes ?_ ?_ ?_
    · intro x hx
      obtain ⟨y, hy, rfl⟩ := List.mem_map.1 hx
      exact hK.run y hy
    · rw [List.pairwise_map]; exact hK.apart
    · intro r hrun
      by_cases hne : r = []
      · subst hne
        obtain ⟨x, hx, hx'⟩ := hK.nil
        exact ⟨txt x, List.mem_map.2 ⟨x, hx, rfl⟩, by rw [hx']; exact Sam.Alike.refl _ _⟩
      · obtain ⟨e, he⟩ := hrun
        have hlen := he.len
        have hle := he.le
        rw [txt_length] at hle
        have hpos : 0 < r.length := List.length_pos_iff.2 hne
        obtain ⟨x, hx, hal⟩ := hK.seen (e - r.length) e (by omega) hle (.inl (by omega))
        refine ⟨txt x, List.mem_map.2 ⟨x, hx, rfl⟩, ?_⟩
        have hre : r = ((txt T).take e).drop (e - r.length) := by
          have := List.suffix_iff_eq_drop.1 he.2
          rwa [List.length_take, Nat.min_eq_left he.le] at this
        rw [txt_cut, ← hre] at hal
        exact hal
  rw [List.length_map] at hm
  rw [hr, hm] at hev
  exact hev
end
end Go.Proofs.Ytbakoigejihnaaa.Ref

/- The chapter's example, computed. -/
namespace Go.Proofs.Ytbakoigejihnaaa.Ref
open Sam (EndsAt Run countS firstS longS endsS nRuns bestS)
def la : ByteArray := ⟨#[97]⟩
def lb : ByteArray := ⟨#[98]⟩
def abab : List ByteArray := [la, lb, la, lb]
theorem ex_runs : nRuns abab = 7 := by decide +kernel
theorem ex_best : bestS abab [lb, la, lb, lb] = (3, 1, 0) := by decide +kernel
theorem ex_count : countS abab [la, lb] = 2 := by decide +kernel
theorem ex_first : firstS abab [lb] = 1 := by decide +kernel
theorem ex_ends : endsS abab [lb, ⟨#[99]⟩] = [1, 0] := by decide +kernel
theorem ex_words : licitlaw27_words.f 9 ⟨#[97, 98, 97, 98]⟩ = some [⟨la, 0⟩, ⟨lb, 0⟩, ⟨la, 0⟩, ⟨lb, 0⟩] := by kernel_rfl
theorem ex_states : licitref27_States.f 100 [⟨la, 0⟩, ⟨lb, 0⟩, ⟨la, 0⟩, ⟨lb, 0⟩] = some 5 := by kernel_rfl
end Go.Proofs.Ytbakoigejihnaaa.Ref

/- The automaton's contracts over the laws' own kind of words. -/
set_option linter.unusedSectionVars false
set_option linter.unusedSimpArgs false
set_option linter.unusedVariables false
namespace Go.Proofs.Ytbakoigejihnaaa.Law
open Go.RowKit Go.AutoMap Go.Proofs.YtbakoigejihnaaaW.PrintWords Go.Proofs.YtbakoigejihnaaaW.PrintLast Go.Proofs.YtbakoigejihnaaaW.PrintMore
open Sam (Auto Inv countS firstS nRuns endsS bestS Run)
open Ref (S41 k41 txt)
open Wk (Built kW EndsIs)

def two (x : S41) : ByteArray × Int := (x.f0, x.f1)
theorem two_txt (l : List S41) : (l.map two).map (·.1) = txt l := by simp [txt, two]
theorem C_two {w : World} {A : Option Addr} {n : Nat} {l : List S41} (h : Kd.C k41 w A n l) : Kd.C kW w A n (l.map two) := by
  refine ⟨by rw [List.length_map]; exact h.1, h.2.1, fun hn => ?_⟩
  obtain ⟨ad, e, hc⟩ := h.2.2 hn
  refine ⟨ad, e, fun j p hj => ?_⟩
  rw [List.getElem?_map] at hj
  cases hl : l[j]? with
  | none => rw [hl] at hj; simp at hj
  | some x =>
    rw [hl] at hj
    simp only [Option.map_some, Option.some.injEq] at hj
    subst hj
    exact hc j x hl

section
variable {w : World} {base ba : Nat} {A : Auto ByteArray} {W : List ByteArray} (A1 : Option Addr) (c1 : Nat) (l : List S41) (hT : Kd.C k41 w A1 l.length l)
include hT

theorem build (hlen : l.length ≤ 8192) :
    Calls Try.prog 12 #[.slice A1 l.length c1] w fun e w' => ∃ ba A, e = .returned (.tuple #[.pointer (some ⟨ba, 0, none⟩), .int .i64 0]) ∧ AutoMem 53 56 w' w.heap.size ba A ∧ Built (txt l) A ∧ Below w.heap.size w w' := by
  have := Wk.build_calls w A1 c1 (l.map two) (by rw [List.length_map]; exact C_two hT) (by rw [List.length_map]; exact hlen)
  rwa [List.length_map, two_txt] at this

variable (hlen : l.length ≤ 100000)
include hlen

theorem has (hm : AutoMem 53 56 w base ba A) (hb : Built W A) :
    Calls Try.prog 23 #[.pointer (some ⟨ba, 0, none⟩), .slice A1 l.length c1] w fun e w' => e = .returned (.bool (decide (Run W (txt l)))) ∧ Below w.heap.size w w' := by
  have := Wk.q_has A1 c1 (l.map two) (by rw [List.length_map]; exact C_two hT) (by rw [List.length_map]; exact hlen) hm hb
  rwa [List.length_map, two_txt] at this
theorem count (hm : AutoMem 53 56 w base ba A) (hb : Built W A) :
    Calls Try.prog 25 #[.pointer (some ⟨ba, 0, none⟩), .slice A1 l.length c1] w fun e w' => e = .returned (.int .i64 (countS W (txt l) : Nat)) ∧ Below w.heap.size w w' := by
  have := Wk.q_count A1 c1 (l.map two) (by rw [List.length_map]; exact C_two hT) (by rw [List.length_map]; exact hlen) hm hb
  rwa [List.length_map, two_txt] at this
theorem first (hm : AutoMem 53 56 w base ba A) (hb : Built W A) (hW : W.length ≤ 8192) :
    Calls Try.prog 27 #[.pointer (some ⟨ba, 0, none⟩), .slice A1 l.length c1] w fun e w' => e = .returned (.int .i64 (firstS W (txt l))) ∧ Below w.heap.size w w' := by
  have := Wk.q_first A1 c1 (l.map two) (by rw [List.length_map]; exact C_two hT) (by rw [List.length_map]; exact hlen) hm hb hW
  rwa [List.length_map, two_txt] at this
theorem ends (hm : AutoMem 53 56 w base ba A) (hb : Built W A) (hW : W.length ≤ 8192) :
    Calls Try.prog 21 #[.pointer (some ⟨ba, 0, none⟩), .slice A1 l.length c1] w fun e w' => ∃ v, e = .returned v ∧ EndsIs w' w.heap.size l.length (endsS W (txt l)) v ∧ Below w.heap.size w w' := by
  have := Wk.q_ends A1 c1 (l.map two) (by rw [List.length_map]; exact C_two hT) (by rw [List.length_map]; exact hlen) hm hb hW
  rwa [List.length_map, two_txt] at this
theorem longest (hm : AutoMem 53 56 w base ba A) (hb : Built W A) (hW : W.length ≤ 8192) :
    Calls Try.prog 18 #[.pointer (some ⟨ba, 0, none⟩), .slice A1 l.length c1] w fun e w' => e = .returned (.tuple #[.int .i64 (bestS W (txt l)).2.1, .int .i64 (bestS W (txt l)).2.2, .int .i64 ((bestS W (txt l)).1 : Nat)]) ∧ Below w.heap.size w w' := by
  have := Wk.q_longest A1 c1 (l.map two) (by rw [List.length_map]; exact C_two hT) (by rw [List.length_map]; exact hlen) hm hb hW
  rwa [List.length_map, two_txt] at this
end

/-- what Ends hands back, read as a row -/
theorem ends_reads {w : World} {base n : Nat} {L : List Nat} {v : Value} (h : EndsIs w base n L v) (hL : L.length = n) (hn : n ≤ 100000) : ∃ A1, v = .slice A1 n n ∧ Kd.C (Kd.int .i64) w A1 n (L.map fun x => ((x : Nat) : Int)) := by
  unfold EndsIs at h
  split at h
  · rename_i h0
    subst h0 h
    refine ⟨none, rfl, by rw [List.length_map]; exact hL, by omega, fun hn => by omega⟩
  · obtain ⟨b, rfl, hr⟩ := h
    refine ⟨_, rfl, by rw [List.length_map]; exact hL, by omega, fun _ => ⟨_, rfl, fun j p hj => ?_⟩⟩
    rw [List.getElem?_map] at hj
    cases hl : L[j]? with
    | none => rw [hl] at hj; simp at hj
    | some x =>
      rw [hl] at hj
      simp only [Option.map_some, Option.some.injEq] at hj
      have hjn : j < n := by have := (List.getElem?_eq_some_iff.1 hl).1; omega
      have hc := hr.cell hjn
      rw [List.getD_eq_getElem?_getD, hl] at hc
      refine ⟨[.int .i64 p], rfl, rfl, fun i u hu => ?_⟩
      cases i with
      | succ i => simp at hu
      | zero =>
        simp only [List.getElem?_cons_zero, Option.some.injEq] at hu
        subst hu hj
        have e : (⟨b, 0, none⟩ : Addr).add (j * (Kd.int .i64).sz + 0) = ⟨b, j, none⟩ := by
          show (⟨b, 0, none⟩ : Addr).add (j * 1 + 0) = _
          simp [Addr.add]
          omega
        rw [e]; exact hc

theorem ref_R {w : World} {base : Nat} {ok : Nat → Prop} {v : Value} {l : List S41} (h : Kd.R k41 41 w base ok v l) : ∃ A1 c1, v = .slice A1 l.length c1 ∧ l.length ≤ c1 ∧ Kd.C k41 w A1 l.length l := by
  obtain ⟨A1, c, h1, hle, h2⟩ := h.2.reads
  exact ⟨A1, c, h1, hle, h2.imp_ (Below.refl _ _) (fun p c hc => k41.K_of_M hc)⟩
end Go.Proofs.Ytbakoigejihnaaa.Law

/- The chapter's example, walked: awake. -/
set_option linter.unusedSectionVars false
set_option linter.unusedSimpArgs false
set_option linter.unusedVariables false
namespace Go.Proofs.Ytbakoigejihnaaa.Law
open Go.RowKit Go.AutoMap Go.Proofs.YtbakoigejihnaaaW.PrintWords Go.Proofs.YtbakoigejihnaaaW.PrintLast Go.Proofs.YtbakoigejihnaaaW.PrintMore
open Sam (Auto Inv countS firstS nRuns endsS bestS Run)
open Ref (S41 k41 txt la lb abab)
open Wk (Built kW EndsIs)

theorem words (s : ByteArray) (l : List S41) (k : Nat) (h : Ref.licitlaw27_words.f k s = some l) (w : World) :
    Calls Try.prog 33 #[.string s] w fun e w' => ∃ A1 c1, e = .returned (.slice A1 l.length c1) ∧ l.length ≤ c1 ∧ Kd.C k41 w' A1 l.length l ∧ Below w.heap.size w w' := by
  refine (Ref.licitlaw27_words.calls k s l w h).mono ?_
  rintro e w' ⟨v, rfl, hv, hb⟩
  obtain ⟨A1, c1, rfl, hc, hC⟩ := ref_R hv
  exact ⟨A1, c1, rfl, hc, hC, hb⟩

theorem ex_m {A : Auto ByteArray} (h : Built abab A) : A.m = 5 := by
  obtain ⟨rep, hg⟩ := h.good
  obtain ⟨k0, hk⟩ := Ref.states_ev (T := [⟨la, 0⟩, ⟨lb, 0⟩, ⟨la, 0⟩, ⟨lb, 0⟩]) (by decide) hg.inv
  have hm : ∀ j, Ref.licitref27_States.f (100 + j) [⟨la, 0⟩, ⟨lb, 0⟩, ⟨la, 0⟩, ⟨lb, 0⟩] = some 5 := by
    intro j
    induction j with
    | zero => exact Ref.ex_states
    | succ j ih => exact Ref.licitref27_States.mono _ _ _ ih
  have h1 : Ref.licitref27_States.f (100 + k0) [⟨la, 0⟩, ⟨lb, 0⟩, ⟨la, 0⟩, ⟨lb, 0⟩] = some ((A.m : Nat) : Int) := hk (100 + k0) (by omega)
  rw [hm] at h1
  have h2 : (5 : Int) = ((A.m : Nat) : Int) := by simpa using h1
  omega

def Yes (w : World) (e : Ending) (w' : World) : Prop := e = .returned (.bool true) ∧ Below w.heap.size w w'

theorem words_n (s : ByteArray) (l : List S41) (k n : Nat) (hn : l.length = n) (h : Ref.licitlaw27_words.f k s = some l) (w : World) :
    Calls Try.prog 33 #[.string s] w fun e w' => ∃ A1 c1, e = .returned (.slice A1 n c1) ∧ Kd.C k41 w' A1 l.length l ∧ Below w.heap.size w w' := by
  subst hn
  refine (words s l k h w).mono ?_
  rintro e w' ⟨A1, c1, h1, _, h2, h3⟩
  exact ⟨A1, c1, h1, h2, h3⟩

/-- the words of the example, as they lie -/
def wl : List S41 := [⟨la, 0⟩, ⟨lb, 0⟩, ⟨la, 0⟩, ⟨lb, 0⟩]
def wl2 : List S41 := [⟨lb, 0⟩, ⟨la, 0⟩, ⟨lb, 0⟩, ⟨lb, 0⟩]
def wl3 : List S41 := [⟨la, 0⟩, ⟨lb, 0⟩]
def wl4 : List S41 := [⟨lb, 0⟩]
def wl5 : List S41 := [⟨lb, 0⟩, ⟨⟨#[99]⟩, 0⟩]
theorem wl_txt : txt wl = abab := rfl

theorem C_of_cells {w : World} {b n : Nat} {xs : List Int} (hn : xs.length = n) (h64 : n ≤ 9223372036854775807) (h : ∀ j x, xs[j]? = some x → w.cell? ⟨b, j, none⟩ = some (.int .i64 x)) : Kd.C (Kd.int .i64) w (some ⟨b, 0, none⟩) n xs := by
  refine ⟨hn, h64, fun _ => ⟨_, rfl, fun j p hj => ⟨[.int .i64 p], rfl, rfl, fun i u hu => ?_⟩⟩⟩
  cases i with
  | succ i => simp at hu
  | zero =>
    simp only [List.getElem?_cons_zero, Option.some.injEq] at hu
    subst hu
    have e : (⟨b, 0, none⟩ : Addr).add (j * (Kd.int .i64).sz + 0) = ⟨b, j, none⟩ := by
      show (⟨b, 0, none⟩ : Addr).add (j * 1 + 0) = _
      simp [Addr.add]
      omega
    rw [e]; exact h j p hj

theorem drawn0_below {B : Nat} {w w1 w' : World} (h : Below B w w1) (hd : Drawn0 w1 w') : Below B w w' := by
  obtain ⟨m, rfl⟩ := hd
  exact bdrew h m

set_option maxHeartbeats 4000000 in
set_option maxRecDepth 100000 in
theorem awake (w : World) : Calls Try.prog 10 #[] w (Yes w) := by
  have W1 := Aside0.mk (words_n ⟨#[97, 98, 97, 98]⟩ wl 9 4 rfl (by kernel_rfl))
  have W2 := Aside0.mk (words_n ⟨#[98, 97, 98, 98]⟩ wl2 9 4 rfl (by kernel_rfl))
  have W3 := Aside0.mk (words_n ⟨#[97, 98]⟩ wl3 9 2 rfl (by kernel_rfl))
  have W4 := Aside0.mk (words_n ⟨#[98]⟩ wl4 9 1 rfl (by kernel_rfl))
  have W5 := Aside0.mk (words_n ⟨#[98, 99]⟩ wl5 9 2 rfl (by kernel_rfl))
  go_enter Try.func10, Try.ntmps10
  go_wp2_with (go_at_call 33; refine (W1.out _).mono ?_; rintro e w1 ⟨A1, c1, rfl, hC1, hb1⟩)
  have HC1 := Aside0.mk hC1
  have HB1 := Aside0.mk hb1
  clear hC1 hb1
  refine (build (w := w1) A1 c1 wl HC1.out (by decide)).mono ?_
  rintro e w2 ⟨ba, A, rfl, hm, hbt, hb2⟩
  have HM := Aside0.mk hm
  have HBt := Aside0.mk (show Built abab A from hbt)
  have HB2 : Aside0 (Below w.heap.size w w2) := ⟨HB1.out.trans (hb2.mono HB1.out.size)⟩
  clear hm hbt hb2
  go_wp2_with (go_at_call 33; refine (W2.out _).mono ?_; rintro e w3 ⟨A2, c2, rfl, hC2, hb3⟩)
  have HM3 : Aside0 (AutoMem 53 56 w3 w1.heap.size ba A) := ⟨HM.out.below hb3⟩
  have HB3 : Aside0 (Below w.heap.size w w3) := ⟨HB2.out.trans (hb3.mono HB2.out.size)⟩
  have HC2 := Aside0.mk hC2
  clear hb3 hC2
  refine (longest (w := w3) A2 c2 wl2 HC2.out (by decide) HM3.out HBt.out (by decide)).mono ?_
  rintro e w4 ⟨rfl, hb4⟩
  rw [show txt wl2 = [lb, la, lb, lb] from rfl, Ref.ex_best]
  have HM4 : Aside0 (AutoMem 53 56 w4 w1.heap.size ba A) := ⟨HM3.out.below hb4⟩
  have HB4 : Aside0 (Below w.heap.size w w4) := ⟨HB3.out.trans (hb4.mono HB3.out.size)⟩
  clear hb4 HM HM3 HB2 HB3 HC2 HC1 HB1
  go_wp2_with fail
  refine (Wk.q_runs HM4.out HBt.out (by decide)).mono ?_
  rintro e w5 ⟨rfl, hb5⟩
  rw [Ref.ex_runs]
  have HM5 : Aside0 (AutoMem 53 56 w5 w1.heap.size ba A) := ⟨HM4.out.below hb5⟩
  have HB5 : Aside0 (Below w.heap.size w w5) := ⟨HB4.out.trans (hb5.mono HB4.out.size)⟩
  clear hb5 HM4 HB4
  go_wp2_with fail
  refine (Wk.states_calls w5 w1.heap.size ba A HM5.out).mono ?_
  rintro e w6 ⟨rfl, rfl⟩
  rw [ex_m HBt.out]
  go_wp2_with (go_at_call 33; refine (W3.out _).mono ?_; rintro e w7 ⟨A3, c3, rfl, hC3, hb7⟩)
  have HM7 : Aside0 (AutoMem 53 56 w7 w1.heap.size ba A) := ⟨HM5.out.below hb7⟩
  have HB7 : Aside0 (Below w.heap.size w w7) := ⟨HB5.out.trans (hb7.mono HB5.out.size)⟩
  have HC3 := Aside0.mk hC3
  clear hb7 hC3 HM5 HB5
  refine (count (w := w7) A3 c3 wl3 HC3.out (by decide) HM7.out HBt.out).mono ?_
  rintro e w8 ⟨rfl, hb8⟩
  rw [show txt wl3 = [la, lb] from rfl, Ref.ex_count]
  have HM8 : Aside0 (AutoMem 53 56 w8 w1.heap.size ba A) := ⟨HM7.out.below hb8⟩
  have HB8 : Aside0 (Below w.heap.size w w8) := ⟨HB7.out.trans (hb8.mono HB7.out.size)⟩
  clear hb8 HM7 HB7 HC3
  go_wp2_with (go_at_call 33; refine (W4.out _).mono ?_; rintro e w9 ⟨A4, c4, rfl, hC4, hb9⟩)
  have HM9 : Aside0 (AutoMem 53 56 w9 w1.heap.size ba A) := ⟨HM8.out.below hb9⟩
  have HB9 : Aside0 (Below w.heap.size w w9) := ⟨HB8.out.trans (hb9.mono HB8.out.size)⟩
  have HC4 := Aside0.mk hC4
  clear hb9 hC4 HM8 HB8
  refine (first (w := w9) A4 c4 wl4 HC4.out (by decide) HM9.out HBt.out (by decide)).mono ?_
  rintro e w10 ⟨rfl, hb10⟩
  rw [show txt wl4 = [lb] from rfl, Ref.ex_first]
  have HM10 : Aside0 (AutoMem 53 56 w10 w1.heap.size ba A) := ⟨HM9.out.below hb10⟩
  have HB10 : Aside0 (Below w.heap.size w w10) := ⟨HB9.out.trans (hb10.mono HB9.out.size)⟩
  clear hb10 HM9 HB9 HC4
  go_wp2_with (go_at_call 33; refine (W5.out _).mono ?_; rintro e w11 ⟨A5, c5, rfl, hC5, hb11⟩)
  have HM11 : Aside0 (AutoMem 53 56 w11 w1.heap.size ba A) := ⟨HM10.out.below hb11⟩
  have HB11 : Aside0 (Below w.heap.size w w11) := ⟨HB10.out.trans (hb11.mono HB10.out.size)⟩
  have HC5 := Aside0.mk hC5
  clear hb11 hC5 HM10 HB10
  refine (ends (w := w11) A5 c5 wl5 HC5.out (by decide) HM11.out HBt.out (by decide)).mono ?_
  rintro e w12 ⟨v, rfl, hv, hb12⟩
  rw [show txt wl5 = [lb, ⟨#[99]⟩] from rfl, Ref.ex_ends] at hv
  obtain ⟨A6, rfl, hC6⟩ := ends_reads hv (by rfl) (by decide)
  have HC6 := Aside0.mk hC6
  have HB12 : Aside0 (Below w.heap.size w w12) := ⟨HB11.out.trans (hb12.mono HB11.out.size)⟩
  clear hv hC6 hb12 HM11 HB11 HC5
  go_wp2_with fail
  have hCb : Kd.C (Kd.int .i64) (w12.alloc (Obj.cells #[Value.int IntKind.i64 1, Value.int IntKind.i64 0] 3)) (some ⟨w12.heap.size, 0, none⟩) 2 [1, 0] := C_of_cells rfl (by decide) (fun j x hj => by
    have hh := heap_alloc_new w12 (Obj.cells #[Value.int IntKind.i64 1, Value.int IntKind.i64 0] 3)
    match j, hj with
    | 0, hj => simp only [List.getElem?_cons_zero, Option.some.injEq] at hj; subst hj; exact World.news_of_block hh 0 _ rfl
    | 1, hj => simp only [List.getElem?_cons_succ, List.getElem?_cons_zero, Option.some.injEq] at hj; subst hj; exact World.news_of_block hh 1 _ rfl
    | n + 2, hj => simp at hj)
  refine (Ref.slices_Equal_int_int.calls 9 A6 2 [1, 0] (some ⟨w12.heap.size, 0, none⟩) 2 [1, 0] true _ (Kd.C_below HC6.out ((Below.refl _ _).alloc (Nat.le_refl _) _)) (by decide) hCb (by decide) (by kernel_rfl)).mono ?_
  rintro e w13 ⟨rfl, hd⟩
  have HB13 : Aside0 (Below w.heap.size w w13) := ⟨drawn0_below (HB12.out.alloc HB12.out.size _) hd⟩
  clear hCb hd HB12 HC6
  go_wp2_with fail
  go_ret
  exact ⟨rfl, HB13.out⟩
end Go.Proofs.Ytbakoigejihnaaa.Law

/- A row's slice of words, opened. -/
namespace Go.Proofs.Ytbakoigejihnaaa.Law
open Go.ChangeShapes Go.WideShapes Go.ChangeAt Go.RowKit
open Go.ChangeMaps (open_string shut_string)
open Go.Proofs.YtbakoigejihnaaaW.PrintWords Go.Proofs.YtbakoigejihnaaaW.PrintLast Go.Proofs.YtbakoigejihnaaaW.PrintMore
open Ref (S41 k41)
set_option linter.unusedVariables false

theorem own : ownKnob Try.prog.godebug = none := by kernel_rfl
theorem laidOut : laidOutB Try.prog = true := by kernel_rfl

def strOf : Value → ByteArray
  | .string s => s
  | _ => ⟨#[]⟩
def intOf : Value → Int
  | .int _ n => n
  | _ => 0

theorem open_words {H : Type} {enc : TypeId × Value → H} {W : World} {a : Option Addr} {len cap : Nat} {d : DataW H} {ps : List MemPlace}
    (h : DataW.Trod enc Try.prog W 0 (fun _ => true) true 22 (.slice a len cap) d ps) : ∃ l : List S41, l.length = len ∧ len ≤ cap ∧ Kd.C k41 W a len l := by
  obtain ⟨fuel, hf⟩ := h
  rcases Go.Deep.open_slice_pairs Try.underlying22 Try.underlying41 (by kernel_rfl) rfl rfl (by kernel_rfl) (by kernel_rfl) hf with ⟨hcs, _⟩ | ⟨x, l, c, m, n, V0, V1, D0, D1, P0, P1, hcs, _, hl, hm, hmm, _, hcell⟩
  · simp [Value.cells] at hcs
    obtain ⟨rfl, rfl, rfl⟩ := hcs
    exact ⟨[], rfl, Nat.le_refl _, rfl, by omega, fun h => by omega⟩
  · simp [Value.cells] at hcs
    obtain ⟨rfl, rfl, rfl⟩ := hcs
    refine ⟨(List.range len).map fun i => ⟨strOf (V0 i), intOf (V1 i)⟩, by simp, hl, by simp, by unfold maxLen at hm; omega, fun hn => ⟨x, rfl, fun j p hj => ?_⟩⟩
    rw [List.getElem?_map] at hj
    by_cases hjl : j < len
    · rw [List.getElem?_range hjl] at hj
      simp only [Option.map_some, Option.some.injEq] at hj
      have hjm : j < m := by
        rw [hmm]; split <;> omega
      obtain ⟨c0, c1, t0, t1⟩ := hcell j hjm
      obtain ⟨s, hs, _⟩ := DataW.trod_string Try.underlying9 t0
      obtain ⟨q, hq, _⟩ := DataW.trod_int Try.underlying3 t1
      have hs' : V0 j = .string s := by simpa using hs
      have hq' : V1 j = .int .i64 q := by simpa using hq
      rw [hs', hq'] at hj
      subst hj
      refine ⟨[.string s, .int .i64 q], rfl, Ref.k41_mk W ⟨s, q⟩, fun i u hu => ?_⟩
      match i, hu with
      | 0, hu =>
        simp only [List.getElem?_cons_zero, Option.some.injEq] at hu
        subst hu
        rw [← hs']; exact c0
      | 1, hu =>
        simp only [List.getElem?_cons_succ, List.getElem?_cons_zero, Option.some.injEq] at hu
        subst hu
        rw [← hq']; exact c1
      | i + 2, hu => simp at hu
    · rw [List.getElem?_eq_none (by simpa using hjl)] at hj
      simp at hj
end Go.Proofs.Ytbakoigejihnaaa.Law
