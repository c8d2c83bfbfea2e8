/- The law CloneLongest returns true for every input: the longest clone of two texts is as long as the longest run that the automaton of one of them finds in the other one. The tied card. Conditions: none. -/
import Derived.Test.YtbakoigejihnaaaDoorMFd
import Derived.Test.YtbakoigejihnaaaDoorMWalk
import Derived.Test.YtbakoigejihnaaaDoorMKl
import Derived.Test.YtbakoigejihnaaaDoorMEx
import Derived.Test.YtbakoigejihnaaaDoorRows
import Derived.WalkKit
import Derived.ProofKit
import Derived.OpenShut
import Derived.ShutString
import Derived.ChangeOld
import Derived.Below
import Derived.SizedLaws
import Derived.Deep.SlicePairs
import Derived.Lib.SmallJoins
import Derived.Shelf.Vars
import Derived.Test.YtbakoigejihnaaaDoorCards
import Derived.Test.YtbakoigejihnaaaDoorTie
import Derived.Deep.DeepHandedRow
import Derived.LaidMore
import Derived.Lay
import Derived.SevenTiedAt
/- The automaton's contracts over the texts' words; the greatest length among clones, from the back. -/
set_option linter.unusedSectionVars false
set_option linter.unusedSimpArgs false
set_option linter.unusedVariables false
namespace Go.Proofs.YtbakoigejihnaaaDoor.Wp
open Go.RowKit Go.AutoMap Go.Proofs.YtbakoigejihnaaaDoorW.PrintWords Go.Proofs.YtbakoigejihnaaaDoorW.PrintLast Go.Proofs.YtbakoigejihnaaaDoorW.PrintMore
open Sam (Auto bestS)
open Ref (Lx txt)
open Wk (Built kW)
open Kl (Cl)

def two (x : Lx) : ByteArray × Int := (x.f0, x.f1)
theorem two_txt (l : List Lx) : (l.map two).map (·.1) = txt l := by simp [txt, two]
theorem C_two {w : World} {A : Option Addr} {n : Nat} {l : List Lx} (h : Kd.C kLx w A n l) : Kd.C kW w A n (l.map two) := by
  refine ⟨by rw [List.length_map]; exact h.1, h.2.1, fun hn => ?_⟩
  obtain ⟨ad, e, hc⟩ := h.2.2 hn
  refine ⟨ad, e, fun j p hj => ?_⟩
  rw [List.getElem?_map] at hj
  cases hl : l[j]? with
  | none => rw [hl] at hj; simp at hj
  | some x =>
    rw [hl] at hj
    simp only [Option.map_some, Option.some.injEq] at hj
    subst hj
    exact hc j x hl

section
variable {w : World} {base ba : Nat} {A : Auto ByteArray} {W : List ByteArray} (A1 : Option Addr) (c1 : Nat) (l : List Lx) (hT : Kd.C kLx w A1 l.length l)
include hT
theorem build (hlen : l.length ≤ 8192) :
    Calls Tryd.prog 7 #[.slice A1 l.length c1] w fun e w' => ∃ ba A, e = .returned (.tuple #[.pointer (some ⟨ba, 0, none⟩), .int .i64 0]) ∧ AutoMem 49 52 w' w.heap.size ba A ∧ Built (txt l) A ∧ Below w.heap.size w w' := by
  have := Wk.build_calls w A1 c1 (l.map two) (by rw [List.length_map]; exact C_two hT) (by rw [List.length_map]; exact hlen)
  rwa [List.length_map, two_txt] at this
theorem longest_calls (hlen : l.length ≤ 100000) (hm : AutoMem 49 52 w base ba A) (hb : Built W A) (hW : W.length ≤ 8192) :
    Calls Tryd.prog 8 #[.pointer (some ⟨ba, 0, none⟩), .slice A1 l.length c1] w fun e w' => e = .returned (.tuple #[.int .i64 (bestS W (txt l)).2.1, .int .i64 (bestS W (txt l)).2.2, .int .i64 ((bestS W (txt l)).1 : Nat)]) ∧ Below w.heap.size w w' := by
  have := Wk.q_longest A1 c1 (l.map two) (by rw [List.length_map]; exact C_two hT) (by rw [List.length_map]; exact hlen) hm hb hW
  rwa [List.length_map, two_txt] at this
end

theorem longest_snoc (c : Cl) : ∀ L : List Cl, Bs.longest (L ++ [c]) = if c.A = 0 ∧ c.B = 1 then max (Bs.longest L) c.Len else Bs.longest L
  | [] => by
    simp only [List.nil_append, Bs.longest]
    split
    · omega
    · rfl
  | d :: L => by
    simp only [List.cons_append, Bs.longest, longest_snoc c L]
    split <;> split <;> first | rfl | omega
theorem longest_take {L : List Cl} {i : Nat} (hi : i < L.length) : Bs.longest (L.take (i + 1)) = if L[i].A = 0 ∧ L[i].B = 1 then max (Bs.longest (L.take i)) L[i].Len else Bs.longest (L.take i) := by
  rw [List.take_succ_eq_append_getElem hi, longest_snoc]
theorem len_le {L : List Cl} {n : Nat} (h : ∀ c, c ∈ L → c.Len ≤ n) : Bs.longest L ≤ n := by
  rcases Bs.longest_mem L with e | ⟨c, hc, _, _, h2⟩
  · omega
  · have := h c hc; omega
theorem clone_len {T : List (List ByteArray)} {least : Nat} {c : Cl} (h : Kl.IsClone T least c) : c.Len ≤ (T.getD c.A []).length := by
  obtain ⟨g, _, _⟩ := h.same (c.Len - 1) (by have := h.pos; omega)
  have := h.pos
  omega
end Go.Proofs.YtbakoigejihnaaaDoor.Wp

/- The law CloneLongest, walked. -/
set_option linter.unusedSectionVars false
set_option linter.unusedSimpArgs false
set_option linter.unusedVariables false
namespace Go.Proofs.YtbakoigejihnaaaDoor.Wp
open Go.RowKit Go.AutoMap Go.Proofs.YtbakoigejihnaaaDoorW.PrintWords Go.Proofs.YtbakoigejihnaaaDoorW.PrintLast Go.Proofs.YtbakoigejihnaaaDoorW.PrintMore
open Sam (Auto bestS)
open Ref (Lx txt)
open Wk (Built)
open Kl (Cl)

theorem drawn_below {w w' : World} (h : Drawn0 w w') : Below w.heap.size w w' := by
  obtain ⟨m, rfl⟩ := h
  exact ⟨rfl, rfl, rfl, Nat.le_refl _, fun _ _ => rfl⟩

theorem findT_calls (T : List Tx) (A : Option Addr) (c : Nat) (w : World) (hM : MaxAt w) (hC : Kd.C kTx w A T.length T) (hS : ∀ t, t ∈ T → TxSmall t) (hT : T.length ≤ 200) :
    Calls Tryd.prog 6 #[.slice A T.length c, .int .i64 1, .int .i64 1] w fun e w' => Below w.heap.size w w' ∧
      (e = .returned (.tuple #[.slice none 0 0, .int .i64 1]) ∨ e = .returned (.tuple #[.slice none 0 0, .int .i64 10]) ∨
        ∃ L A1 c1, Kl.Clones (tw T) 1 L ∧ L.length ≤ 1024 ∧ e = .returned (.tuple #[.slice A1 L.length c1, .int .i64 0]) ∧ L.length ≤ c1 ∧ Kd.C Ref.k38 w' A1 L.length (L.map clS)) := by
  have h := find_calls T A c w hM hC hS hT 1 1 (by decide) (by decide) (by decide) (by decide)
  refine h.mono fun e w' hp => ?_
  split at hp
  · obtain ⟨hb, L, hL, hc⟩ := hp
    refine ⟨hb, ?_⟩
    rcases hc with ⟨hl, A1, c1, he, hc1, hC1⟩ | ⟨_, he⟩
    · exact .inr (.inr ⟨L, A1, c1, hL, hl, he, hc1, hC1⟩)
    · exact .inr (.inl he)
  · exact ⟨hp.2, .inl hp.1⟩

set_option maxHeartbeats 8000000 in
set_option maxRecDepth 100000 in
theorem law_walk (w : World) (hM : MaxAt w) (s0 s1 : ByteArray) (a0 a1 : Option Addr) (c0 c1 : Nat) (T L : List Lx) (h0 : Kd.C kLx w a0 T.length T) (hc0 : T.length ≤ c0) (h1 : Kd.C kLx w a1 L.length L) (hc1 : L.length ≤ c1) :
    Calls Tryd.prog 3 #[.agg #[.string s0, .slice a0 T.length c0], .agg #[.string s1, .slice a1 L.length c1]] w fun e w' => e = .returned (.bool true) ∧ Below w.heap.size w w' := by
  have HM := Aside0.mk hM
  have HC0 := Aside0.mk h0
  have HC1 := Aside0.mk h1
  have Hc0 := Aside0.mk hc0
  have Hc1 := Aside0.mk hc1
  clear hM h0 h1 hc0 hc1
  go_enter Tryd.func3, Tryd.ntmps3
  go_wp2_with fail
  obtain ⟨W1, hW1⟩ : ∃ W1, W1 = (w.alloc (.cells #[.string s0, .slice a0 T.length c0] 24)).alloc (.cells #[.string s1, .slice a1 L.length c1] 24) := ⟨_, rfl⟩
  rw [← hW1]
  have hb1 : Below w.heap.size w W1 := by rw [hW1]; exact ((Below.refl _ _).alloc (Nat.le_refl _) _).alloc (by simp) _
  have hn0 : W1.heap[w.heap.size]? = some (.cells #[.string s0, .slice a0 T.length c0] 24 (0, 0)) := by
    rw [hW1, heap_alloc_old _ _ (by simp)]; exact heap_alloc_new _ _
  have hn1 : W1.heap[w.heap.size + 1]? = some (.cells #[.string s1, .slice a1 L.length c1] 24 (0, 0)) := by
    have := heap_alloc_new (w.alloc (.cells #[.string s0, .slice a0 T.length c0] 24)) (.cells #[.string s1, .slice a1 L.length c1] 24)
    rw [← hW1] at this
    rwa [show (w.alloc (.cells #[.string s0, .slice a0 T.length c0] 24)).heap.size = w.heap.size + 1 from by simp] at this
  have HB1 := Aside0.mk hb1
  have HN0 := Aside0.mk hn0
  have HN1 := Aside0.mk hn1
  have HW : Aside0 (∀ W, Below W1.heap.size W1 W → Below w.heap.size w W) := ⟨fun W h => hb1.trans (h.mono hb1.size)⟩
  clear hW1 hb1 hn0 hn1
  generalize w.heap.size + 1 = bb at HN1 ⊢
  generalize w.heap.size = ba at HN0 ⊢
  have HX : Aside0 (∀ W, Below W1.heap.size W1 W → W.cell? ⟨ba, 0, none⟩ = some (.string s0) ∧ W.cell? ⟨ba, 1, none⟩ = some (.slice a0 T.length c0) ∧ W.cell? ⟨bb, 0, none⟩ = some (.string s1) ∧ W.cell? ⟨bb, 1, none⟩ = some (.slice a1 L.length c1)) := ⟨fun W h => by
    have e0 := (h.block _ (Array.getElem?_eq_some_iff.1 HN0.out).1).trans HN0.out
    have e1 := (h.block _ (Array.getElem?_eq_some_iff.1 HN1.out).1).trans HN1.out
    exact ⟨World.news_of_block e0 0 _ rfl, World.news_of_block e0 1 _ rfl, World.news_of_block e1 0 _ rfl, World.news_of_block e1 1 _ rfl⟩⟩
  clear HN0 HN1
  (with_reducible refine (awake_calls _ (HM.out.of HB1.out)).mono ?_)
  rintro e w2 ⟨rfl, hb2⟩
  obtain ⟨p0, p1, q0, q1⟩ := HX.out _ hb2
  have HB2 := Aside0.mk hb2
  clear hb2
  go_wp2_with fail
  obtain ⟨W3, hW3⟩ : ∃ W3, W3 = w2.alloc (.cells #[.string s0, .slice a0 T.length c0, .string s1, .slice a1 L.length c1] 24) := ⟨_, rfl⟩
  rw [← hW3]
  have hb3 : Below w2.heap.size w2 W3 := by rw [hW3]; exact (Below.refl _ _).alloc (Nat.le_refl _) _
  have HB3 : Aside0 (Below W1.heap.size W1 W3) := ⟨HB2.out.trans (hb3.mono HB2.out.size)⟩
  have hCT : Kd.C kTx W3 (some ⟨w2.heap.size, 0, none⟩) 2 [⟨s0, T⟩, ⟨s1, L⟩] := by
    have hn := heap_alloc_new w2 (.cells #[.string s0, .slice a0 T.length c0, .string s1, .slice a1 L.length c1] 24)
    rw [← hW3] at hn
    exact two_texts (ta := ⟨s0, T⟩) (tb := ⟨s1, L⟩) hn Hc0.out (Kd.C_below HC0.out (HW.out _ HB3.out)) Hc1.out (Kd.C_below HC1.out (HW.out _ HB3.out))
  have HCT := Aside0.mk hCT
  clear hW3 hb3 hCT p0 p1 q0 q1 HB2
  generalize w2.heap.size = bt at HCT ⊢
  clear w2
  have HF : Aside0 (Calls Tryd.prog 5 #[.slice (some ⟨bt, 0, none⟩) 2 2] W3 fun e w' => e = .returned (.bool (fewT [⟨s0, T⟩, ⟨s1, L⟩])) ∧ Drawn0 W3 w') := ⟨fewT_calls [⟨s0, T⟩, ⟨s1, L⟩] _ 2 W3 HCT.out (by simp)⟩
  have HS := Aside0.mk (@fewT_small [⟨s0, T⟩, ⟨s1, L⟩])
  generalize fewT [⟨s0, T⟩, ⟨s1, L⟩] = bf at HF HS
  cases bf with
  | false =>
    (with_reducible refine (HF.out).mono ?_)
    rintro e w4 ⟨rfl, hd⟩
    have HB4 : Aside0 (Below w.heap.size w w4) := ⟨HW.out _ (HB3.out.trans ((drawn_below hd).mono HB3.out.size))⟩
    clear hd HX HF HS
    go_wp2_with fail
    go_ret
    exact ⟨rfl, HB4.out⟩
  | true =>
    have HSm := Aside0.mk (HS.out rfl)
    have hT : T.length ≤ 40 := (HSm.out ⟨s0, T⟩ (by simp)).2
    have hL : L.length ≤ 40 := (HSm.out ⟨s1, L⟩ (by simp)).2
    (with_reducible refine (HF.out).mono ?_)
    rintro e w4 ⟨rfl, hd⟩
    have HB4 : Aside0 (Below W1.heap.size W1 w4) := ⟨HB3.out.trans ((drawn_below hd).mono HB3.out.size)⟩
    have HCT4 := Aside0.mk (Kd.C_below HCT.out (drawn_below hd))
    clear hd HF HS HB3 HCT
    go_wp2_with fail
    have HFd : Aside0 (Calls Tryd.prog 6 #[.slice (some ⟨bt, 0, none⟩) 2 2, .int .i64 1, .int .i64 1] w4 fun e w' => Below w4.heap.size w4 w' ∧
      (e = .returned (.tuple #[.slice none 0 0, .int .i64 1]) ∨ e = .returned (.tuple #[.slice none 0 0, .int .i64 10]) ∨
        ∃ K A1 c1, Kl.Clones [txt T, txt L] 1 K ∧ K.length ≤ 1024 ∧ e = .returned (.tuple #[.slice A1 K.length c1, .int .i64 0]) ∧ K.length ≤ c1 ∧ Kd.C Ref.k38 w' A1 K.length (K.map clS))) :=
      ⟨findT_calls [⟨s0, T⟩, ⟨s1, L⟩] _ 2 w4 (HM.out.of (HW.out _ HB4.out)) HCT4.out (fun t ht => (HSm.out t ht).1) (by simp)⟩
    (with_reducible refine (HFd.out).mono ?_)
    rintro e w5 ⟨hb5, hcase⟩
    have HB5 : Aside0 (Below W1.heap.size W1 w5) := ⟨HB4.out.trans (hb5.mono HB4.out.size)⟩
    clear hb5 HFd HCT4 HB4 HSm
    rcases hcase with rfl | rfl | ⟨K, A5, c5, hK, hKl, rfl, hc5, hC5⟩
    · have HBw := Aside0.mk (HW.out _ HB5.out)
      clear HX HW HB5
      go_wp2_with fail
      go_ret
      exact ⟨rfl, HBw.out⟩
    · have HBw := Aside0.mk (HW.out _ HB5.out)
      clear HX HW HB5
      go_wp2_with fail
      go_ret
      exact ⟨rfl, HBw.out⟩
    · have HK := Aside0.mk hK
      have HC5 := Aside0.mk hC5
      obtain ⟨p0, p1, q0, q1⟩ := HX.out _ HB5.out
      clear hK hc5 hC5
      go_wp2_with fail
      (with_reducible refine (build a0 c0 T (Kd.C_below HC0.out (HW.out _ HB5.out)) (by omega)).mono ?_)
      rintro e w6 ⟨bm, Au, rfl, hm, hbt, hb6⟩
      have HM6 := Aside0.mk hm
      have HBt := Aside0.mk hbt
      have HC6 := Aside0.mk (Kd.C_below HC5.out hb6)
      have HB6 : Aside0 (Below W1.heap.size W1 w6) := ⟨HB5.out.trans (hb6.mono HB5.out.size)⟩
      clear hm hbt hb6 p0 p1 q0 q1 HC5 HB5
      obtain ⟨p0, p1, q0, q1⟩ := HX.out _ HB6.out
      go_wp2_with fail
      (with_reducible refine (longest_calls a1 c1 L (Kd.C_below HC1.out (HW.out _ HB6.out)) (by omega) HM6.out HBt.out (by rw [Ref.txt_length]; omega)).mono ?_)
      rintro e w7 ⟨rfl, hb7⟩
      have HC7 := Aside0.mk (Kd.C_below HC6.out hb7)
      have HB7 : Aside0 (Below W1.heap.size W1 w7) := ⟨HB6.out.trans (hb7.mono HB6.out.size)⟩
      have HN : Aside0 ((bestS (txt T) (txt L)).1 = Bs.longest K) := ⟨(Bs.clone_longest HK.out).symm⟩
      rw [HN.out]
      clear hb7 p0 p1 q0 q1 HC6 HB6 HM6 HBt HX HN
      generalize (bestS (txt T) (txt L)).2.1 = n1
      generalize (bestS (txt T) (txt L)).2.2 = n2
      have HBw := Aside0.mk (HW.out _ HB7.out)
      go_wp2_with fail
      go_loopg [13, 53] K.length (fun kq v13 v53 wr => ∃ i : Nat, v53 = .int .i64 i ∧ v13 = .int .i64 (Bs.longest (K.take i) : Nat) ∧ Aside0 (i + kq = K.length) ∧ Aside0 (Below w7.heap.size w7 wr))
      case atStart => exact ⟨0, rfl, rfl, ⟨by omega⟩, ⟨Below.refl _ _⟩⟩
      case round =>
        obtain ⟨i, rfl, rfl, HI, HBr⟩ := hrel
        by_cases hi : i < K.length
        · have hib : decide ((i : Int) < (K.length : Int)) = true := by simpa using hi
          obtain ⟨ad, e1, p0, p1, p2, p3, p4⟩ := Ref.at_T38 (Kd.C_below HC7.out HBr.out) (i : Int) (by omega) (by omega)
          subst e1
          have hx : Ref.rd_T38 (K.map clS) (i : Int) = clS K[i] := by rw [rd_cl (by simpa using hi), List.getElem_map]
          rw [hx, Int.toNat_natCast] at p0 p1 p2 p3 p4
          have HT := Aside0.mk (longest_take hi)
          clear hx
          generalize K[i] = x at p0 p1 p2 p3 p4 HT
          obtain ⟨x0, x1, x2, x3, x4⟩ := x
          simp only [clS] at p0 p1 p2 p3 p4
          generalize Bs.longest (K.take i) = m at HT
          have HBx : Aside0 (∀ v, Below w7.heap.size w7 (wr.alloc (.cells #[.int .i64 (x0 : Nat), .int .i64 (x1 : Nat), .int .i64 (x2 : Nat), .int .i64 (x3 : Nat), .int .i64 (x4 : Nat)] v))) := ⟨fun v => HBr.out.alloc HBr.out.size _⟩
          by_cases hA : x0 = 0
          · subst hA
            by_cases hB : x2 = 1
            · subst hB
              have HE : Aside0 (Bs.longest (K.take (i + 1)) = max m x4) := ⟨by rw [HT.out]; exact if_pos ⟨rfl, rfl⟩⟩
              clear HT HBr HBw
              go_wp2_with fail
              go_roundg (gk - 1)
              case measure => have := HI.out; omega
              case rel => exact ⟨i + 1, by go_num, by rw [HE.out]; first | rfl | (congr 1; omega) | go_num, ⟨by have := HI.out; omega⟩, ⟨HBx.out _⟩⟩
            · have HE : Aside0 (Bs.longest (K.take (i + 1)) = m) := ⟨by rw [HT.out]; exact if_neg (fun h => hB h.2)⟩
              have bB : (((x2 : Nat) : Int) == 1) = false := by rw [beq_eq_false_iff_ne]; omega
              clear HT HBr HBw hB
              go_wp2_with fail
              go_roundg (gk - 1)
              case measure => have := HI.out; omega
              case rel => exact ⟨i + 1, by go_num, by rw [HE.out], ⟨by have := HI.out; omega⟩, ⟨HBx.out _⟩⟩
          · have HE : Aside0 (Bs.longest (K.take (i + 1)) = m) := ⟨by rw [HT.out]; exact if_neg (fun h => hA h.1)⟩
            have bA : (((x0 : Nat) : Int) == 0) = false := by rw [beq_eq_false_iff_ne]; omega
            clear HT HBr HBw hA
            go_wp2_with fail
            go_roundg (gk - 1)
            case measure => have := HI.out; omega
            case rel => exact ⟨i + 1, by go_num, by rw [HE.out], ⟨by have := HI.out; omega⟩, ⟨HBx.out _⟩⟩
        · have hib : decide ((i : Int) < (K.length : Int)) = false := by simpa using hi
          have HE : Aside0 (K.take i = K) := ⟨List.take_of_length_le (by omega)⟩
          rw [HE.out]
          generalize Bs.longest K = m
          have HBz : Aside0 (Below w.heap.size w wr) := ⟨HW.out _ (HB7.out.trans (HBr.out.mono HB7.out.size))⟩
          clear HBw HW HB7 HBr HE
          go_wp2_with fail
          go_ret
          exact ⟨rfl, HBz.out⟩
end Go.Proofs.YtbakoigejihnaaaDoor.Wp

/- A row's texts, opened; what the world's shape gives. -/
namespace Go.Proofs.YtbakoigejihnaaaDoor.Wp
open Go.ChangeShapes Go.WideShapes Go.ChangeAt Go.RowKit
open Go.ChangeMaps (open_string shut_string)
open Go.Proofs.YtbakoigejihnaaaDoorW.PrintWords Go.Proofs.YtbakoigejihnaaaDoorW.PrintLast Go.Proofs.YtbakoigejihnaaaDoorW.PrintMore
open Ref (Lx)
open Go.Proofs Joins
set_option linter.unusedVariables false

theorem own : ownKnob Tryd.prog.godebug = none := by kernel_rfl
theorem laidOut : laidOutB Tryd.prog = true := by kernel_rfl

theorem max_at {W : World} (h : W.ShapedOpen Tryd.prog) : MaxAt W := by
  obtain ⟨m, hm⟩ := cell_of_shapedOpen_int (g := 0) (t := 3) (zero := #[.int .i64 0]) h (of_decide_eq_true (by kernel_rfl)) (by kernel_rfl) rfl (by kernel_rfl) (by kernel_rfl) Tryd.underlying3
  have : 0 < W.heap.size := World.block_lt_of_cell? _ _ hm
  exact ⟨by omega, m, hm⟩

def strOf : Value → ByteArray
  | .string s => s
  | _ => ⟨#[]⟩
def intOf' : Value → Int
  | .int _ n => n
  | _ => 0

theorem open_words {H : Type} {enc : TypeId × Value → H} {W : World} {v : Value} {fuel : Nat} {y : DataW H × List MemPlace}
    (hf : DataW.trod enc Tryd.prog W 0 (fun _ => true) true fuel 22 [v] = some y) : ∃ (a : Option Addr) (n c : Nat) (l : List Lx), v = .slice a n c ∧ l.length = n ∧ n ≤ c ∧ Kd.C kLx W a n l := by
  rcases Go.Deep.open_slice_pairs Tryd.underlying22 Tryd.underlying54 (by kernel_rfl) rfl rfl (by kernel_rfl) (by kernel_rfl) hf with ⟨hcs, _⟩ | ⟨x, len, cap, m, n, V0, V1, D0, D1, P0, P1, hcs, _, hl, hm, hmm, _, hcell⟩
  · obtain rfl := (List.cons.inj hcs).1
    exact ⟨none, 0, 0, [], rfl, rfl, Nat.le_refl _, rfl, by omega, fun h => by omega⟩
  · obtain rfl := (List.cons.inj hcs).1
    refine ⟨some x, len, cap, (List.range len).map fun i => ⟨strOf (V0 i), intOf' (V1 i)⟩, rfl, by simp, hl, by simp, by unfold maxLen at hm; omega, fun hn => ⟨x, rfl, fun j p hj => ?_⟩⟩
    rw [List.getElem?_map] at hj
    by_cases hjl : j < len
    · rw [List.getElem?_range hjl] at hj
      simp only [Option.map_some, Option.some.injEq] at hj
      have hjm : j < m := by
        rw [hmm]; split <;> omega
      obtain ⟨c0, c1, t0, t1⟩ := hcell j hjm
      obtain ⟨s, hs, _⟩ := DataW.trod_string Tryd.underlying9 t0
      obtain ⟨q, hq, _⟩ := DataW.trod_int Tryd.underlying3 t1
      have hs' : V0 j = .string s := by simpa using hs
      have hq' : V1 j = .int .i64 q := by simpa using hq
      rw [hs', hq'] at hj
      subst hj
      refine ⟨[.string s, .int .i64 q], rfl, Ref.k54_mk W ⟨s, q⟩, fun i u hu => ?_⟩
      match i, hu with
      | 0, hu =>
        simp only [List.getElem?_cons_zero, Option.some.injEq] at hu
        subst hu
        rw [← hs']; exact c0
      | 1, hu =>
        simp only [List.getElem?_cons_succ, List.getElem?_cons_zero, Option.some.injEq] at hu
        subst hu
        rw [← hq']; exact c1
      | i + 2, hu => simp at hu
    · rw [List.getElem?_eq_none (by simpa using hjl)] at hj
      simp at hj

set_option maxRecDepth 100000 in
theorem open_text {H : Type} {enc : TypeId × Value → H} {W : World} {base : Nat} {v : Value} {d : DataW H} {ps : List MemPlace} (hv : Value.okWide Tryd.prog W .any base 24 v)
    (h : DataW.Trod enc Tryd.prog W 0 (fun _ => true) true 24 v d ps) : ∃ (s : ByteArray) (a : Option Addr) (c : Nat) (l : List Lx), v = .agg #[.string s, .slice a l.length c] ∧ l.length ≤ c ∧ Kd.C kLx W a l.length l := by
  obtain ⟨v0, v1, y0, y1, n, rfl, _, _, h0, h1⟩ := open_agg2 Tryd.underlying24 (by kernel_rfl) (by kernel_rfl) hv h
  obtain ⟨s, hs, _⟩ := DataW.trod_string Tryd.underlying9 h0
  have hs' : v0 = .string s := by simpa using hs
  subst hs'
  obtain ⟨a, n, c, l, rfl, rfl, hc, hC⟩ := open_words h1
  exact ⟨s, a, c, l, rfl, hc, hC⟩
end Go.Proofs.YtbakoigejihnaaaDoor.Wp

/- The longest clone of two texts is as long as the longest run that the automaton of one of them finds in the other one: the row of CloneLongest and its tied card, out of the law's walk. -/
namespace Go.Proofs.YtbakoigejihnaaaDoor.Law
open Go.ChangeShapes Go.WideShapes Go.ChangeAt Go.RowKit
open Wp (own laidOut max_at open_text)
set_option linter.unusedVariables false

theorem laid_met (os : Os) (args : Array Value) : laidMetH Tryd.prog Rows.cloneLongestRow.laid ((World.laidAll Tryd.prog os Rows.cloneLongestRow.laid).forCall (fun _ _ => 0) ⟨#[], args, []⟩).memory := by
  rw [MakeChecks.laidMetH_plain _ _ _ (by kernel_rfl)]; exact laidMet_laidAll _ (by kernel_rfl) (by kernel_rfl)

set_option maxRecDepth 100000 in
theorem lifted (os : Os) (started : os.Started) (H : Type) (enc : TypeId × Value → H) (F : Stop.Interp) :
    ReturnsInHanded {} Tryd.checked os 3 .any ((OpenSpec.ofChange Rows.cloneLongestSpec).preRow enc Tryd.prog Tryd.f3 Rows.cloneLongestRow.domain false Rows.cloneLongestRow.laid) (((OpenSpec.ofChange Rows.cloneLongestSpec).at F).post enc Tryd.prog Tryd.f3 false true false false) := by
  refine returnsInHanded_of_row (C := Tryd.checked) (s := OpenSpec.ofChange Rows.cloneLongestSpec) own started (by kernel_rfl) Tryd.func3 ?witness ?_
  case witness =>
    obtain ⟨places, hx⟩ : ∃ places, DataW.whole enc Tryd.prog ((World.laidAll Tryd.prog os Rows.cloneLongestRow.laid).forCall (fun _ _ => 0) ⟨#[], #[.agg #[.string ⟨#[]⟩, .slice none 0 0], .agg #[.string ⟨#[]⟩, .slice none 0 0]], []⟩).memory Tryd.f3.params.toList Rows.cloneLongestSpec.vars false #[Value.agg #[.string ⟨#[]⟩, .slice none 0 0], .agg #[.string ⟨#[]⟩, .slice none 0 0]].toList 8 = some ([.agg [.lit (.string []), .nil], .agg [.lit (.string []), .nil]], [], places) := ⟨[], by kernel_rfl⟩
    exact witness_row_at (enc := enc) (C := Tryd.checked) false (World.laidAll Tryd.prog os Rows.cloneLongestRow.laid) #[.agg #[.string ⟨#[]⟩, .slice none 0 0], .agg #[.string ⟨#[]⟩, .slice none 0 0]] (World.laidAll_os _ _ _) (by kernel_rfl) (by kernel_rfl) (by kernel_rfl)
      (OpenSpec.preRow_of_cond 8 hx (by kernel_rfl) (fun k hk => by cases hk) (by kernel_rfl) (laid_met os _))
  intro W base args ds gs before hval0 hW _ _ _ _ hsh _
  have hval : ∀ (j : Nat) t v, Tryd.f3.params[j]? = some t → args[j]? = some v → Value.okWide Tryd.prog W .any base t v := hval0
  have hW' := hW
  obtain ⟨p, q, hA0, hV, rfl, hfz, hnd⟩ := hW
  have hA : DataW.TrodAll enc Tryd.prog W 0 (fun _ => true) true Tryd.f3.params.toList args.toList ds p := hA0
  rw [Tryd.params3] at hA hval
  obtain ⟨v0, vs0, d0, ds0, p0, q0, hargs, rfl, rfl, h0, r0⟩ := trodAll_cons hA
  obtain ⟨v1, vs1, d1, ds1, p1, q1, rfl, rfl, rfl, h1, r1⟩ := trodAll_cons r0
  obtain ⟨rfl, rfl, rfl⟩ := trodAll_nil r1
  obtain rfl : args = #[v0, v1] := by cases args; simp_all
  obtain ⟨rfl, rfl⟩ := trodVars_none hV
  have k0 := h0
  have lt0 : ∀ x ∈ p0, x.block < W.heap.size := by obtain ⟨m, hm⟩ := k0; exact DataW.trod_lt m _ _ _ hm
  have k1 := h1
  have lt1 : ∀ x ∈ p1, x.block < W.heap.size := by obtain ⟨m, hm⟩ := k1; exact DataW.trod_lt m _ _ _ hm
  obtain ⟨s0, a0, c0, l0, rfl, hc0, hC0⟩ := open_text (hval 0 24 v0 rfl rfl) h0
  obtain ⟨s1, a1, c1, l1, rfl, hc1, hC1⟩ := open_text (hval 1 24 v1 rfl rfl) h1
  clear hA0 hval0
  refine (Wp.law_walk W (max_at hsh) s0 s1 a0 a1 c0 c1 l0 l1 hC0 hc0 hC1 hc1).mono fun e W' ⟨he, bel⟩ => ?_
  subst he
  exact ⟨_, rfl, _, _, _, [], _, [], hW', trodAll_mk1 (shut_bool Tryd.underlying4 _), (trodAll_cons_mk (Below.trod laidOut (by kernel_rfl) (of_decide_eq_true (by kernel_rfl)) k0 bel lt0) (trodAll_cons_mk (Below.trod laidOut (by kernel_rfl) (of_decide_eq_true (by kernel_rfl)) k1 bel lt1) trodAll_mk0)), rfl, bel.frame _, fun h => by cases h⟩

theorem said : Rows.CloneLongestSaid :=
  OpenClaim.holds_of_cond 3 Tryd.f3 rfl rfl rfl rfl rfl rfl rfl ⟨rfl, rfl, rfl, rfl, rfl⟩ rfl rfl rfl rfl rfl (by kernel_rfl) Tryd.func3 (by kernel_rfl)
    (of_decide_eq_true (by kernel_rfl)) (by unfold Func.isWrapper; first | (rw [if_pos (by decide +kernel)]; kernel_rfl) | (rw [if_neg (by decide +kernel)]; exact ⟨rfl, rfl⟩))
    (fun os started H enc _ F => by rw [OpenClaim.pre_eq_preRow]; exact lifted os started H enc F)

theorem plain (f : FuncId) (fn : Func) (hf : Tryd.pinned.checked.prog.funcNamed "licit/licitlaw29.CloneLongest" = some f) (hfn : Tryd.pinned.checked.prog.funcs[f]? = some fn) :
    false = Tryd.pinned.checked.prog.looks [] ∧ ∀ (j : Nat) t, fn.params[j]? = some t → Tryd.pinned.checked.prog.wantsStandIn t = false := by
  obtain rfl : f = 3 := Option.some.inj ((show Tryd.prog.funcNamed "licit/licitlaw29.CloneLongest" = some 3 by kernel_rfl).symm.trans hf) |>.symm
  obtain rfl : fn = Tryd.f3 := (Option.some.inj (Tryd.func3.symm.trans hfn)).symm
  refine ⟨by kernel_rfl, fun j t ht => ?_⟩
  rw [Tryd.params3] at ht
  have hm : t ∈ [24, 24] := by simpa using Array.mem_of_getElem? ht
  obtain rfl : t = 24 := by simpa using hm
  exact (show Tryd.prog.wantsStandIn 24 = false by kernel_rfl)
end Go.Proofs.YtbakoigejihnaaaDoor.Law
namespace Go.Proofs.YtbakoigejihnaaaDoor
/-- The card. -/
theorem cloneLongest_holds : Rows.CloneLongestCardSaid :=
  Claim7.holds_tied_plain_at .later [] _ _ _ _ Law.said (fun _ h => by cases h) (by kernel_rfl) (fun _ h => by cases h) cloneLongest_row_tie rfl ⟨rfl, rfl⟩ (by kernel_rfl) rfl Law.plain (by kernel_rfl)
end Go.Proofs.YtbakoigejihnaaaDoor
