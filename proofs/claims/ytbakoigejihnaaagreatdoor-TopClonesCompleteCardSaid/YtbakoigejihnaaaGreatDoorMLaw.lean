/- No copy is missed: TopClonesComplete returns true for every input: the clones of two texts of at least k + w - 1 words are the maximal equal runs, each has a fingerprint that both select, the corpus of the one knows that the other is near, and the longest is as long as the automaton says; the tied card. Conditions: none. -/
import Derived.Test.YtbakoigejihnaaaGreatDoorMFp
import Derived.Test.YtbakoigejihnaaaGreatDoorMPo
import Derived.Test.YtbakoigejihnaaaGreatDoorMFd
import Derived.Test.YtbakoigejihnaaaGreatDoorMBs
import Derived.Test.YtbakoigejihnaaaGreatDoorRows
import Derived.Stop.LaidErr
import Derived.Lib.LaidTab
import Derived.Lib.AtoiBound
import Derived.LaidMore
import Derived.Lay
import Derived.KernelRfl
import Derived.Lib.SmallJoins
import Derived.Lib.AppendIntMem
import Derived.Test.YtbakoigejihnaaaGreatDoorCards
import Derived.Test.YtbakoigejihnaaaGreatDoorTie
import Derived.WalkKit
import Derived.ProofKit
import Derived.OpenShut
import Derived.ShutString
import Derived.ChangeOld
import Derived.Below
import Derived.SizedLaws
import Derived.Shelf.Vars
import Derived.Deep.DeepHandedRow
import Derived.SevenTiedAt
section
set_option linter.unusedSectionVars false
set_option linter.unusedSimpArgs false
set_option linter.unusedVariables false
namespace Go.Proofs.YtbakoigejihnaaaGreatDoor.Wp
open Go.RowKit Go.AutoMap Go.Proofs.YtbakoigejihnaaaGreatDoorW.PrintWords Go.Proofs.YtbakoigejihnaaaGreatDoorW.PrintLast Go.Proofs.YtbakoigejihnaaaGreatDoorW.PrintMore
open Ref (Lx txt txt_length)
open Sam (Auto bestS)
open Wk (Built)
open Kl (Cl want wantOf wantOf_snoc far farOf farOf_snoc grid grid_zero grid_step grid_row starts got_want mem_want)
open Dl (keepS delete_calls DelPost)
open Fp (BoolPost)

theorem right_two {a b : List Lx} (ha : validT ⟨⟨#[97]⟩, a⟩ = true) (hb : validT ⟨⟨#[98]⟩, b⟩ = true) : rightT [⟨⟨#[97]⟩, a⟩, ⟨⟨#[98]⟩, b⟩] = true := by
  unfold rightT
  rw [if_neg (by simp)]
  unfold rightOk
  rw [if_pos ha]
  unfold rightOk
  rw [if_pos hb]
  have h : leS ⟨#[98]⟩ ⟨#[97]⟩ = false := by decide +kernel
  simp [h, rightOk]
theorem want_len {α : Type} [DecidableEq α] (a b : List α) (least : Nat) (l : List (Nat × Nat)) : (wantOf a b least l).length ≤ l.length := by
  unfold wantOf
  rw [List.length_map]
  exact List.length_filter_le _ _
theorem grid_len (nb : Nat) : ∀ i j, (grid nb i j).length = i * nb + j
  | 0, 0 => by rw [grid_zero]; simp
  | i + 1, 0 => by rw [← grid_row, grid_len nb i nb, Nat.add_mul, Nat.one_mul]; rfl
  | i, j + 1 => by rw [grid_step, List.length_append, grid_len nb i j]; rfl
termination_by i j => (i, j)
theorem keep_map (L : List Cl) : (L.filter fun c => !decide (c.A = c.B)).map clS = keepS (L.map clS) := by
  unfold keepS
  rw [List.filter_map]
  congr 1
  refine List.filter_congr fun c _ => ?_
  simp only [Function.comp, Dl.sameB, clS]
  congr 1
  rw [Bool.eq_iff_iff, decide_eq_true_eq, beq_iff_eq]
  omega
def YesPost (w : World) (e : Ending) (w' : World) : Prop := e = .returned (.bool true) ∧ Below w.heap.size w w'

set_option maxHeartbeats 16000000 in
set_option maxRecDepth 100000 in
theorem law_walk0 (w : World) (hL : LibAt w) (s t : ByteArray) (names numbers : Bool) (g wd : Nat) (g1 : g < 256) (d1 : wd < 256) :
    Calls Tryz.prog 3 #[.string s, .string t, .bool names, .bool numbers, .int .u8 (g : Nat), .int .u8 (wd : Nat)] w (YesPost w) := by
  have HL := Aside0.mk hL
  clear hL
  go_enter Tryz.func3, Tryz.ntmps3
  go_wp2_with fail
  (with_reducible refine (cawake_calls _ HL.out).mono ?_)
  rintro e w1 ⟨rfl, hb1⟩
  have HB1 := Aside0.mk hb1
  clear hb1
  by_cases hs : s.size ≤ 300
  · have hsb : decide ((300 : Int) < (s.size : Int)) = false := by simp; omega
    have hsb2 : decide (300 < s.size) = false := by simp; omega
    by_cases ht : t.size ≤ 300
    · have htb : decide ((300 : Int) < (t.size : Int)) = false := by simp; omega
      have htb2 : decide (300 < t.size) = false := by simp; omega
      have HWa := Aside0.mk (fun (W : World) (hL : LibAt W) => words_calls ⟨#[97]⟩ s names numbers pathA (by decide) (by omega) W hL)
      have HWb := Aside0.mk (fun (W : World) (hL : LibAt W) => words_calls ⟨#[98]⟩ t names numbers pathB (by decide) (by omega) W hL)
      have HSa : Aside0 (TxSmall ⟨⟨#[97]⟩, wordsOf names numbers s⟩) := ⟨words_small names numbers (by decide) (by omega)⟩
      have HSb : Aside0 (TxSmall ⟨⟨#[98]⟩, wordsOf names numbers t⟩) := ⟨words_small names numbers (by decide) (by omega)⟩
      have HVa : Aside0 (validT ⟨⟨#[97]⟩, wordsOf names numbers s⟩ = true) := ⟨words_valid names numbers pathA (by omega)⟩
      have HVb : Aside0 (validT ⟨⟨#[98]⟩, wordsOf names numbers t⟩ = true) := ⟨words_valid names numbers pathB (by omega)⟩
      generalize wordsOf names numbers s = la at HWa HSa HVa
      generalize wordsOf names numbers t = lb at HWb HSb HVb
      clear hs ht
      go_wp2_with fail
      obtain ⟨k, hk, hk0, hk1⟩ : ∃ k : Nat, (1 + (g : Int) % 4) = (k : Int) ∧ 1 ≤ k ∧ k ≤ 4 := ⟨1 + g % 4, by omega, by omega, by omega⟩
      obtain ⟨wi, hwi, hw0, hw1⟩ : ∃ wi : Nat, (1 + (wd : Int) % 4) = (wi : Int) ∧ 1 ≤ wi ∧ wi ≤ 4 := ⟨1 + wd % 4, by omega, by omega, by omega⟩
      rw [hk, hwi]
      clear hk hwi g1 d1 hsb hsb2 htb htb2
      (with_reducible refine (HWa.out _ (HL.out.of HB1.out)).mono ?_)
      rintro e w2 ⟨A1, c1, rfl, hc1, hC1, hb2⟩
      have HB2 : Aside0 (Below w.heap.size w w2) := ⟨HB1.out.trans (hb2.mono HB1.out.size)⟩
      have HC2 := Aside0.mk (And.intro hc1 hC1)
      clear hc1 hC1 hb2 HWa HB1 w1
      go_wp2_with fail
      obtain ⟨W3, hW3⟩ : ∃ W3, W3 = w2.alloc (.cells #[.string ⟨#[97]⟩, .slice A1 la.length c1] 25) := ⟨_, rfl⟩
      rw [← hW3]
      have hn3 := heap_alloc_new w2 (.cells #[.string ⟨#[97]⟩, .slice A1 la.length c1] 25)
      rw [← hW3] at hn3
      have hb3 : Below w2.heap.size w2 W3 := by rw [hW3]; exact (Below.refl _ _).alloc (Nat.le_refl _) _
      have HB3 : Aside0 (Below w.heap.size w W3) := ⟨HB2.out.trans (hb3.mono HB2.out.size)⟩
      have HN3 : Aside0 (W3.heap[w2.heap.size]? = some (.cells #[.string ⟨#[97]⟩, .slice A1 la.length c1] 25 (0, 0)) ∧ w.heap.size ≤ w2.heap.size) := ⟨hn3, HB2.out.size⟩
      have HC3 := Aside0.mk (And.intro HC2.out.1 (Kd.C_below HC2.out.2 hb3))
      clear hW3 hn3 hb3 HC2 HB2
      generalize w2.heap.size = ba at HN3 ⊢
      clear w2
      (with_reducible refine (HWb.out _ (HL.out.of HB3.out)).mono ?_)
      rintro e w4 ⟨A2, c2, rfl, hc2, hC2, hb4⟩
      have HB4 : Aside0 (Below w.heap.size w w4) := ⟨HB3.out.trans (hb4.mono HB3.out.size)⟩
      have HC4 := Aside0.mk (And.intro hc2 hC2)
      have HC4a := Aside0.mk (And.intro HC3.out.1 (Kd.C_below HC3.out.2 hb4))
      have HN4 : Aside0 (w4.heap[ba]? = some (.cells #[.string ⟨#[97]⟩, .slice A1 la.length c1] 25 (0, 0))) := ⟨blk_below HN3.out.1 hb4⟩
      have HNb := Aside0.mk HN3.out.2
      clear hc2 hC2 hb4 HWb HB3 HC3 HN3
      obtain ⟨W5, hW5⟩ : ∃ W5, W5 = w4.alloc (.cells #[.string ⟨#[98]⟩, .slice A2 lb.length c2] 25) := ⟨_, rfl⟩
      have hn5 := heap_alloc_new w4 (.cells #[.string ⟨#[98]⟩, .slice A2 lb.length c2] 25)
      rw [← hW5] at hn5
      have hb5 : Below w4.heap.size w4 W5 := by rw [hW5]; exact (Below.refl _ _).alloc (Nat.le_refl _) _
      have HB5 : Aside0 (Below w.heap.size w W5) := ⟨HB4.out.trans (hb5.mono HB4.out.size)⟩
      have HN5 : Aside0 (W5.heap[ba]? = some (.cells #[.string ⟨#[97]⟩, .slice A1 la.length c1] 25 (0, 0)) ∧ W5.heap[w4.heap.size]? = some (.cells #[.string ⟨#[98]⟩, .slice A2 lb.length c2] 25 (0, 0)) ∧ w.heap.size ≤ w4.heap.size) := ⟨blk_below HN4.out hb5, hn5, HB4.out.size⟩
      have HC5 := Aside0.mk (And.intro HC4a.out.1 (And.intro (Kd.C_below HC4a.out.2 hb5) (And.intro HC4.out.1 (Kd.C_below HC4.out.2 hb5))))
      clear hn5 hb5 HC4 HC4a HN4 HB4
      have xa0 := blk_cell HN5.out.1 0
      have xa1 := blk_cell HN5.out.1 1
      have xb0 := blk_cell HN5.out.2.1 0
      have xb1 := blk_cell HN5.out.2.1 1
      rw [hW5] at xa0 xa1 xb0 xb1
      by_cases hla : la.length ≤ 60
      · have hlab : decide ((60 : Int) < (la.length : Int)) = false := by simp; omega
        have hlab2 : decide (60 < la.length) = false := by simp; omega
        by_cases hlb : lb.length ≤ 60
        · have hlbb : decide ((60 : Int) < (lb.length : Int)) = false := by simp; omega
          have hlbb2 : decide (60 < lb.length) = false := by simp; omega
          have HLl := Aside0.mk (And.intro hla hlb)
          clear hla hlb
          go_wp2_with fail
          clear xa0 xa1 xb0 xb1
          have hs5 : w4.heap.size + 1 = W5.heap.size := by rw [hW5]; simp
          rw [← hW5, hs5]
          obtain ⟨W6, hW6⟩ : ∃ W6, W6 = W5.alloc (.cells #[.string ⟨#[97]⟩, .slice A1 la.length c1, .string ⟨#[98]⟩, .slice A2 lb.length c2] 25) := ⟨_, rfl⟩
          rw [← hW6]
          have hn6 := heap_alloc_new W5 (.cells #[.string ⟨#[97]⟩, .slice A1 la.length c1, .string ⟨#[98]⟩, .slice A2 lb.length c2] 25)
          rw [← hW6] at hn6
          have hb6 : Below W5.heap.size W5 W6 := by rw [hW6]; exact (Below.refl _ _).alloc (Nat.le_refl _) _
          have HB6 : Aside0 (Below w.heap.size w W6) := ⟨HB5.out.trans (hb6.mono HB5.out.size)⟩
          have HC6 := Aside0.mk (And.intro HC5.out.1 (And.intro (Kd.C_below HC5.out.2.1 hb6) (And.intro HC5.out.2.2.1 (Kd.C_below HC5.out.2.2.2 hb6))))
          have HN6 : Aside0 (W6.heap[ba]? = some (.cells #[.string ⟨#[97]⟩, .slice A1 la.length c1] 25 (0, 0)) ∧ W6.heap[w4.heap.size]? = some (.cells #[.string ⟨#[98]⟩, .slice A2 lb.length c2] 25 (0, 0))) := ⟨blk_below HN5.out.1 hb6, blk_below HN5.out.2.1 hb6⟩
          have HCT : Aside0 (Kd.C kTx W6 (some ⟨W5.heap.size, 0, none⟩) 2 [⟨⟨#[97]⟩, la⟩, ⟨⟨#[98]⟩, lb⟩]) := ⟨two_texts (ta := ⟨⟨#[97]⟩, la⟩) (tb := ⟨⟨#[98]⟩, lb⟩) hn6 HC6.out.1 HC6.out.2.1 HC6.out.2.2.1 HC6.out.2.2.2⟩
          clear hW5 hs5 hW6 hn6 hb6 HN5 HC5 HB5
          generalize w4.heap.size = bb at HN6 ⊢
          generalize W5.heap.size = bt at HCT ⊢
          clear W5 w4
          have HFd : Aside0 (Calls Tryz.prog 6 #[.slice (some ⟨bt, 0, none⟩) 2 2, .int .i64 (k : Nat), .int .i64 (wi : Nat)] W6 (CnPost W6 [⟨⟨#[97]⟩, la⟩, ⟨⟨#[98]⟩, lb⟩] k wi)) := ⟨by
            have h := find_calls [⟨⟨#[97]⟩, la⟩, ⟨⟨#[98]⟩, lb⟩] (some ⟨bt, 0, none⟩) 2 W6 (HL.out.max.of HB6.out) HCT.out (fun t ht => by
              rcases List.mem_cons.1 ht with rfl | ht
              · exact HSa.out
              · rw [List.mem_singleton.1 ht]; exact HSb.out) (by simp) k wi hk0 (by omega) hw0 (by omega)
            simp only [right_two HVa.out HVb.out, if_true] at h
            exact h⟩
          (with_reducible refine HFd.out.mono ?_)
          rintro e w7 ⟨hb7, L, hLc, hcase⟩
          have HB7 : Aside0 (Below w.heap.size w w7) := ⟨HB6.out.trans (hb7.mono HB6.out.size)⟩
          have HLc : Aside0 (Kl.Clones [txt la, txt lb] (k + wi - 1) L) := ⟨hLc⟩
          have HC7 := Aside0.mk (And.intro HC6.out.1 (And.intro (Kd.C_below HC6.out.2.1 hb7) (And.intro HC6.out.2.2.1 (Kd.C_below HC6.out.2.2.2 hb7))))
          have HN7 : Aside0 (w7.heap[ba]? = some (.cells #[.string ⟨#[97]⟩, .slice A1 la.length c1] 25 (0, 0)) ∧ w7.heap[bb]? = some (.cells #[.string ⟨#[98]⟩, .slice A2 lb.length c2] 25 (0, 0))) := ⟨blk_below HN6.out.1 hb7, blk_below HN6.out.2 hb7⟩
          clear hb7 hLc HFd HCT HC6 HN6 HB6 W6
          rcases hcase with ⟨hLl, A7, c7, rfl, hc7, hC7⟩ | ⟨_, rfl⟩
          · have HCL := Aside0.mk (And.intro hLl (And.intro hc7 hC7))
            clear hLl hc7 hC7
            have HX : Aside0 (∀ W, Below w7.heap.size w7 W → W.cell? ⟨ba, 0, none⟩ = some (.string ⟨#[97]⟩) ∧ W.cell? ⟨ba, 1, none⟩ = some (.slice A1 la.length c1) ∧ W.cell? ⟨bb, 0, none⟩ = some (.string ⟨#[98]⟩) ∧ W.cell? ⟨bb, 1, none⟩ = some (.slice A2 lb.length c2)) :=
              ⟨fun W h => ⟨blk_cell (blk_below HN7.out.1 h) 0, blk_cell (blk_below HN7.out.1 h) 1, blk_cell (blk_below HN7.out.2 h) 0, blk_cell (blk_below HN7.out.2 h) 1⟩⟩
            clear HN7
            obtain ⟨x0, x1, x2, x3⟩ := HX.out _ (Below.refl _ _)
            go_wp2_with fail
            clear x0 x1 x2 x3
            obtain ⟨ls, hls⟩ : ∃ ls : Nat, k + wi = ls + 1 := ⟨k + wi - 1, by omega⟩
            have hle : k + wi - 1 = ls := by omega
            rw [hle] at HLc
            have hl1 : 1 ≤ ls := by omega
            have hl9 : ls ≤ 7 := by omega
            have HCm : Aside0 (∀ (i j : Nat) (hi : i ≤ la.length) (hj : j ≤ lb.length) (W : World) (hM : MaxAt W) (h1 : Kd.C kLx W A1 la.length la) (h2 : Kd.C kLx W A2 lb.length lb),
                Calls Tryz.prog 7 #[.agg #[.string ⟨#[97]⟩, .slice A1 la.length c1], .int .i64 (i : Nat), .agg #[.string ⟨#[98]⟩, .slice A2 lb.length c2], .int .i64 (j : Nat)] W fun e w' => e = .returned (.int .i64 (Kl.fwd (txt la) i (txt lb) j : Nat)) ∧ Below W.heap.size W w') := ⟨fun i j hi hj W hM h1 h2 =>
              common_calls ⟨⟨#[97]⟩, la⟩ ⟨⟨#[98]⟩, lb⟩ HSa.out HSb.out HVa.out HVb.out A1 A2 c1 c2 W hM h1 h2 HC7.out.1 HC7.out.2.2.1 i j hi hj⟩
            have HW7 : Aside0 (∀ W, Below w7.heap.size w7 W → MaxAt W ∧ Kd.C kLx W A1 la.length la ∧ Kd.C kLx W A2 lb.length lb) := ⟨fun W h => ⟨(HL.out.max.of HB7.out).of h, Kd.C_below HC7.out.2.1 h, Kd.C_below HC7.out.2.2.2 h⟩⟩
            have HLs := Aside0.mk (And.intro hls (And.intro hl1 hl9))
            clear hls hle hl1 hl9
            go_loopg [21, 22, 98] la.length (fun gg v21 v22 v98 wr => ∃ i : Nat, v98 = .int .i64 i ∧ v22 = .int .i64 ((farOf (txt la) (txt lb) (grid lb.length i 0) : Nat) : Int) ∧ Aside0 (i + gg = la.length) ∧
                Aside0 (Kd.R kCl 37 wr w7.heap.size Yes v21 ((wantOf (txt la) (txt lb) ls (grid lb.length i 0)).map clS)) ∧ Aside0 (Below w7.heap.size w7 wr))
            case atStart => exact ⟨0, rfl, rfl, ⟨by omega⟩, ⟨Kd.R_nil _ _ _ _ _⟩, ⟨Below.refl _ _⟩⟩
            case round =>
              obtain ⟨i, rfl, rfl, HK, HR, HB⟩ := hrel
              obtain ⟨gq, hgq⟩ : ∃ gq, gq = gk := ⟨_, rfl⟩
              rw [← hgq] at HK
              have HGq := Aside0.mk hgq
              clear hgq
              by_cases hi : i < la.length
              · have hib : decide (i < la.length) = true := decide_eq_true hi
                have hib2 : decide ((i : Int) < (la.length : Int)) = true := by simpa using hi
                obtain ⟨x0, x1, x2, x3⟩ := HX.out _ HB.out
                have HHi := Aside0.mk hi
                clear hi
                go_wp2_with fail
                clear x0 x1 x2 x3 hib hib2
                go_loopg [21, 22, 104] lb.length (fun gg v21 v22 v104 wr => ∃ j : Nat, v104 = .int .i64 j ∧ v22 = .int .i64 ((farOf (txt la) (txt lb) (grid lb.length i j) : Nat) : Int) ∧ Aside0 (j + gg = lb.length) ∧
                    Aside0 (Kd.R kCl 37 wr w7.heap.size Yes v21 ((wantOf (txt la) (txt lb) ls (grid lb.length i j)).map clS)) ∧ Aside0 (Below w7.heap.size w7 wr))
                case atStart => exact ⟨0, rfl, rfl, ⟨by omega⟩, HR, HB⟩
                case round =>
                  clear HR HB
                  obtain ⟨j, rfl, rfl, HKj, HR, HB⟩ := hrel
                  by_cases hj : j < lb.length
                  · have hjb : decide (j < lb.length) = true := decide_eq_true hj
                    have hjb2 : decide ((j : Int) < (lb.length : Int)) = true := by simpa using hj
                    obtain ⟨x0, x1, x2, x3⟩ := HX.out _ HB.out
                    have HHj := Aside0.mk hj
                    clear hj
                    go_wp2_with fail
                    obtain ⟨hm1, hm2, hm3⟩ := HW7.out _ HB.out
                    (with_reducible refine (HCm.out i j (Nat.le_of_lt HHi.out) (Nat.le_of_lt HHj.out) _ hm1 hm2 hm3).mono ?_)
                    rintro e w8 ⟨rfl, hb8⟩
                    have HB8 : Aside0 (Below w7.heap.size w7 w8) := ⟨HB.out.trans (hb8.mono HB.out.size)⟩
                    have HR8 := Aside0.mk (Kd.R_below HR.out hb8)
                    clear hm1 hm2 hm3 hb8 HR HB x0 x1 x2 x3 hjb hjb2
                    have HFs : Aside0 (farOf (txt la) (txt lb) (grid lb.length i (j + 1)) = max (farOf (txt la) (txt lb) (grid lb.length i j)) (Kl.fwd (txt la) i (txt lb) j)) := ⟨by rw [grid_step, farOf_snoc]⟩
                    have HWs : Aside0 ((wantOf (txt la) (txt lb) ls (grid lb.length i (j + 1))).map clS = if starts (txt la) (txt lb) ls (i, j) = true then (wantOf (txt la) (txt lb) ls (grid lb.length i j)).map clS ++ [clS ⟨0, i, 1, j, Kl.fwd (txt la) i (txt lb) j⟩] else (wantOf (txt la) (txt lb) ls (grid lb.length i j)).map clS) := ⟨by
                      rw [grid_step, wantOf_snoc]
                      split
                      · rw [List.map_append]; rfl
                      · rfl⟩
                    have HSt : Aside0 (starts (txt la) (txt lb) ls (i, j) = (decide (ls ≤ Kl.fwd (txt la) i (txt lb) j) && (decide (i = 0) || decide (j = 0) || !decide ((txt la)[i - 1]? = (txt lb)[j - 1]?)))) := ⟨rfl⟩
                    have HLn : Aside0 (((wantOf (txt la) (txt lb) ls (grid lb.length i j)).map clS).length ≤ 100000) := ⟨by
                      rw [List.length_map]
                      refine Nat.le_trans (want_len _ _ _ _) ?_
                      rw [grid_len]
                      have h1 := HHi.out
                      have h2 := HHj.out
                      have h3 := HLl.out
                      have h4 : i * lb.length ≤ 60 * 60 := Nat.mul_le_mul (by omega) (by omega)
                      omega⟩
                    obtain ⟨x0, x1, x2, x3⟩ := HX.out _ HB8.out
                    obtain ⟨h8m, h8a, h8b⟩ := HW7.out _ HB8.out
                    have HWd := Aside0.mk (And.intro h8a h8b)
                    clear h8m h8a h8b
                    generalize starts (txt la) (txt lb) ls (i, j) = st at HWs HSt
                    generalize Kl.fwd (txt la) i (txt lb) j = n at HFs HWs HSt ⊢
                    generalize farOf (txt la) (txt lb) (grid lb.length i j) = m0 at HFs ⊢
                    generalize (wantOf (txt la) (txt lb) ls (grid lb.length i j)).map clS = cur at HWs HLn HR8
                    go_wp2_with fail
                    have hj9 : j ≤ 60 := by have := HHj.out; have := HLl.out; omega
                    have hs1 : IntKind.i64.wrap ((k : Int) + (wi : Int)) = (ls : Int) + 1 := by have := HLs.out; rw [IntWalk.i64_in _ (by omega)]; omega
                    have hs2 : IntKind.i64.wrap ((ls : Int) + 1 - 1) = (ls : Int) := by have := HLs.out; rw [IntWalk.i64_in _ (by omega)]; omega
                    have hs3 : IntKind.i64.wrap (ls : Int) = (ls : Int) := by have := HLs.out; rw [IntWalk.i64_in _ (by omega)]
                    by_cases hn : ls ≤ n
                    · have cA : decide (ls ≤ n) = true := decide_eq_true hn
                      have cA2 : decide ((ls : Int) ≤ (n : Int)) = true := by simpa using hn
                      rw [cA, Bool.true_and] at HSt
                      clear hn
                      by_cases hi0 : i = 0
                      · have hbi : ((i : Int) == 0) = true := by rw [beq_iff_eq]; omega
                        rw [decide_eq_true hi0, Bool.true_or, Bool.true_or] at HSt
                        clear hi0
                        have HRq : Aside0 (∀ q, Kd.R kCl 37 (w8.drewN q) w7.heap.size Yes u21 cur) := ⟨fun q => Kd.R_below HR8.out (pw_below_drewN (Below.refl _ _) q)⟩
                        have HBq : Aside0 (∀ q, Below w7.heap.size w7 (w8.drewN q)) := ⟨fun q => pw_below_drewN HB8.out q⟩
                        have HSz : Aside0 (w7.heap.size ≤ w8.heap.size) := ⟨HB8.out.size⟩
                        clear HR8 HB8
                        go_quiet (fail)
                        go_wp2_with ((with_reducible refine gate_builtin (b := .append) (xs := #[.tmp 146, .tmp 151]) rfl ?_); at_builtin; refine Kd.R_append kCl (w0 := w7) (W := w8.drewN nq) w7.heap.size rfl (.tmp 146) (.tmp 151) 29 37 (.agg #[.int .i64 0, .int .i64 0, .int .i64 0, .int .i64 0, .int .i64 0]) 40 rfl Tryz.underlying29 Ps.infoCl rfl (by decide) (by omega) u21 cur (clS ⟨0, i, 1, j, n⟩) [.int .i64 0, .int .i64 (i : Nat), .int .i64 1, .int .i64 (j : Nat), .int .i64 (n : Nat)] (fun _ => True) (fun _ => False) rfl (by rfl) ?aP (fun _ hk => hk.elim) ?aF ?aO ?aB ?aS ?aL ?_)
                        case aP => exact Ref.k37_mkM _ _ _ (clS ⟨0, i, 1, j, n⟩)
                        case aF => exact fun _ _ => trivial
                        case aO => exact HRq.out nq
                        case aB => exact HBq.out nq
                        case aS => exact HSz.out
                        case aL => have := HLn.out; omega
                        intro v1 w9 ho hb hg hat
                        have HO9 := Aside0.mk ho
                        have HB9 := Aside0.mk hb
                        clear ho hb hg hat HRq HBq HSz
                        go_wp2_with fail
                        go_roundg (gk - 1)
                        case measure => have := HKj.out; have := HHj.out; omega
                        case rel => exact ⟨j + 1, by go_num, by rw [HFs.out]; first | rfl | (congr 1; omega) | go_num, ⟨by have := HKj.out; have := HHj.out; omega⟩, ⟨by rw [HWs.out, HSt.out, if_pos (by simp)]; exact HO9.out⟩, ⟨HB9.out⟩⟩
                      · have hbi : ((i : Int) == 0) = false := by rw [beq_eq_false_iff_ne]; omega
                        rw [decide_eq_false hi0, Bool.false_or] at HSt
                        by_cases hj0 : j = 0
                        · have hbj : ((j : Int) == 0) = true := by rw [beq_iff_eq]; omega
                          rw [decide_eq_true hj0, Bool.true_or] at HSt
                          clear hi0 hj0
                          have HRq : Aside0 (∀ q, Kd.R kCl 37 (w8.drewN q) w7.heap.size Yes u21 cur) := ⟨fun q => Kd.R_below HR8.out (pw_below_drewN (Below.refl _ _) q)⟩
                          have HBq : Aside0 (∀ q, Below w7.heap.size w7 (w8.drewN q)) := ⟨fun q => pw_below_drewN HB8.out q⟩
                          have HSz : Aside0 (w7.heap.size ≤ w8.heap.size) := ⟨HB8.out.size⟩
                          clear HR8 HB8
                          go_quiet (fail)
                          go_wp2_with ((with_reducible refine gate_builtin (b := .append) (xs := #[.tmp 146, .tmp 151]) rfl ?_); at_builtin; refine Kd.R_append kCl (w0 := w7) (W := w8.drewN nq) w7.heap.size rfl (.tmp 146) (.tmp 151) 29 37 (.agg #[.int .i64 0, .int .i64 0, .int .i64 0, .int .i64 0, .int .i64 0]) 40 rfl Tryz.underlying29 Ps.infoCl rfl (by decide) (by omega) u21 cur (clS ⟨0, i, 1, j, n⟩) [.int .i64 0, .int .i64 (i : Nat), .int .i64 1, .int .i64 (j : Nat), .int .i64 (n : Nat)] (fun _ => True) (fun _ => False) rfl (by rfl) ?aP (fun _ hk => hk.elim) ?aF ?aO ?aB ?aS ?aL ?_)
                          case aP => exact Ref.k37_mkM _ _ _ (clS ⟨0, i, 1, j, n⟩)
                          case aF => exact fun _ _ => trivial
                          case aO => exact HRq.out nq
                          case aB => exact HBq.out nq
                          case aS => exact HSz.out
                          case aL => have := HLn.out; omega
                          intro v1 w9 ho hb hg hat
                          have HO9 := Aside0.mk ho
                          have HB9 := Aside0.mk hb
                          clear ho hb hg hat HRq HBq HSz
                          go_wp2_with fail
                          go_roundg (gk - 1)
                          case measure => have := HKj.out; have := HHj.out; omega
                          case rel => exact ⟨j + 1, by go_num, by rw [HFs.out]; first | rfl | (congr 1; omega) | go_num, ⟨by have := HKj.out; have := HHj.out; omega⟩, ⟨by rw [HWs.out, HSt.out, if_pos (by simp)]; exact HO9.out⟩, ⟨HB9.out⟩⟩
                        · have hbj : ((j : Int) == 0) = false := by rw [beq_eq_false_iff_ne]; omega
                          rw [decide_eq_false hj0, Bool.false_or] at HSt
                          obtain ⟨i1, hi1⟩ : ∃ i1, i = i1 + 1 := ⟨i - 1, by omega⟩
                          obtain ⟨j1, hj1⟩ : ∃ j1, j = j1 + 1 := ⟨j - 1, by omega⟩
                          have hil : i1 < la.length := by have := HHi.out; omega
                          have hjl : j1 < lb.length := by have := HHj.out; omega
                          obtain ⟨ad1, e1, v1⟩ := at_word HWd.out.1 hil
                          obtain ⟨ad2, e2, v2⟩ := at_word HWd.out.2 hjl
                          subst e1 e2
                          have hi9 : i ≤ 60 := by have := HHi.out; have := HLl.out; omega
                          have hsi : IntKind.i64.wrap ((i : Int) - 1) = (i1 : Int) := by rw [IntWalk.i64_in _ (by omega)]; omega
                          have hsj : IntKind.i64.wrap ((j : Int) - 1) = (j1 : Int) := by rw [IntWalk.i64_in _ (by omega)]; omega
                          have hi3 : (i : Int) - 1 = (i1 : Int) := by omega
                          have hj3 : (j : Int) - 1 = (j1 : Int) := by omega
                          have hib1 : decide (i1 < la.length) = true := decide_eq_true hil
                          have hjb1 : decide (j1 < lb.length) = true := decide_eq_true hjl
                          have hxe : ((txt la)[i - 1]? = (txt lb)[j - 1]?) = ((txt la).getD i1 ByteArray.empty = (txt lb).getD j1 ByteArray.empty) := by
                            rw [hi1, hj1, Nat.add_sub_cancel, Nat.add_sub_cancel, List.getD_eq_getElem?_getD, List.getD_eq_getElem?_getD, List.getElem?_eq_getElem (by rw [txt_length]; exact hil), List.getElem?_eq_getElem (by rw [txt_length]; exact hjl)]
                            simp
                          simp only [hxe] at HSt
                          clear hxe hi0 hj0 hi1 hj1
                          generalize (txt la).getD i1 ByteArray.empty = s1 at v1 HSt
                          generalize (txt lb).getD j1 ByteArray.empty = s2 at v2 HSt
                          by_cases he : s1 = s2
                          · have hb : (s1.toList == s2.toList) = true := by rw [he]; exact beq_self_eq_true _
                            have hb2 : (s1.toList != s2.toList) = false := by rw [he]; simp
                            rw [decide_eq_true he] at HSt
                            clear he
                            go_quiet (fail)
                            go_wp2_with fail
                            go_roundg (gk - 1)
                            case measure => have := HKj.out; have := HHj.out; omega
                            case rel => exact ⟨j + 1, by go_num, by rw [HFs.out]; first | rfl | (congr 1; omega) | go_num, ⟨by have := HKj.out; have := HHj.out; omega⟩, ⟨by rw [HWs.out, HSt.out, if_neg (by simp)]; exact Kd.R_below HR8.out (pw_below_drewN (Below.refl _ _) _)⟩, ⟨pw_below_drewN HB8.out _⟩⟩
                          · have hb : (s1.toList == s2.toList) = false := by rw [beq_eq_false_iff_ne]; exact fun k => he (bytes_inj.1 k)
                            have hb2 : (s1.toList != s2.toList) = true := by rw [bne_iff_ne]; exact fun k => he (bytes_inj.1 k)
                            rw [decide_eq_false he] at HSt
                            clear he
                            have HRq : Aside0 (∀ q, Kd.R kCl 37 (w8.drewN q) w7.heap.size Yes u21 cur) := ⟨fun q => Kd.R_below HR8.out (pw_below_drewN (Below.refl _ _) q)⟩
                            have HBq : Aside0 (∀ q, Below w7.heap.size w7 (w8.drewN q)) := ⟨fun q => pw_below_drewN HB8.out q⟩
                            have HSz : Aside0 (w7.heap.size ≤ w8.heap.size) := ⟨HB8.out.size⟩
                            clear HR8 HB8
                            go_quiet (fail)
                            go_wp2_with ((with_reducible refine gate_builtin (b := .append) (xs := #[.tmp 146, .tmp 151]) rfl ?_); at_builtin; refine Kd.R_append kCl (w0 := w7) (W := w8.drewN nq) w7.heap.size rfl (.tmp 146) (.tmp 151) 29 37 (.agg #[.int .i64 0, .int .i64 0, .int .i64 0, .int .i64 0, .int .i64 0]) 40 rfl Tryz.underlying29 Ps.infoCl rfl (by decide) (by omega) u21 cur (clS ⟨0, i, 1, j, n⟩) [.int .i64 0, .int .i64 (i : Nat), .int .i64 1, .int .i64 (j : Nat), .int .i64 (n : Nat)] (fun _ => True) (fun _ => False) rfl (by rfl) ?aP (fun _ hk => hk.elim) ?aF ?aO ?aB ?aS ?aL ?_)
                            case aP => exact Ref.k37_mkM _ _ _ (clS ⟨0, i, 1, j, n⟩)
                            case aF => exact fun _ _ => trivial
                            case aO => exact HRq.out nq
                            case aB => exact HBq.out nq
                            case aS => exact HSz.out
                            case aL => have := HLn.out; omega
                            intro v1 w9 ho hb hg hat
                            have HO9 := Aside0.mk ho
                            have HB9 := Aside0.mk hb
                            clear ho hb hg hat HRq HBq HSz
                            go_wp2_with fail
                            go_roundg (gk - 1)
                            case measure => have := HKj.out; have := HHj.out; omega
                            case rel => exact ⟨j + 1, by go_num, by rw [HFs.out]; first | rfl | (congr 1; omega) | go_num, ⟨by have := HKj.out; have := HHj.out; omega⟩, ⟨by rw [HWs.out, HSt.out, if_pos (by simp)]; exact HO9.out⟩, ⟨HB9.out⟩⟩
                    · have cA : decide (ls ≤ n) = false := decide_eq_false hn
                      have cA2 : decide ((ls : Int) ≤ (n : Int)) = false := by simpa using hn
                      rw [cA, Bool.false_and] at HSt
                      clear hn
                      go_quiet (fail)
                      go_wp2_with fail
                      go_roundg (gk - 1)
                      case measure => have := HKj.out; have := HHj.out; omega
                      case rel => exact ⟨j + 1, by go_num, by rw [HFs.out]; first | rfl | (congr 1; omega) | go_num, ⟨by have := HKj.out; have := HHj.out; omega⟩, ⟨by rw [HWs.out, HSt.out, if_neg (by simp)]; exact Kd.R_below HR8.out (pw_below_drewN (Below.refl _ _) _)⟩, ⟨pw_below_drewN HB8.out _⟩⟩
                  · have hjb : decide (j < lb.length) = false := decide_eq_false hj
                    have hjb2 : decide ((j : Int) < (lb.length : Int)) = false := by simpa using hj
                    have HE : Aside0 (grid lb.length i j = grid lb.length (i + 1) 0) := ⟨by
                      have : j = lb.length := by have := HKj.out; omega
                      rw [this]; exact grid_row _ _⟩
                    rw [HE.out] at HR
                    rw [HE.out]
                    have hi9 : i ≤ 60 := by have := HHi.out; have := HLl.out; omega
                    clear hj
                    go_wp2_with fail
                    go_roundg (gq - 1)
                    case measure => have := HK.out; have := HHi.out; have := HGq.out; omega
                    case rel => exact ⟨i + 1, by go_num, rfl, ⟨by have := HK.out; have := HHi.out; omega⟩, HR, HB⟩
              · have hib : decide (i < la.length) = false := decide_eq_false hi
                have hib2 : decide ((i : Int) < (la.length : Int)) = false := by simpa using hi
                have HE : Aside0 (i = la.length) := ⟨by have := HK.out; omega⟩
                have HFa : Aside0 (farOf (txt la) (txt lb) (grid lb.length i 0) = (bestS (txt la) (txt lb)).1) := ⟨by
                  rw [HE.out, ← Bs.far_best]; unfold far; rw [txt_length, txt_length]⟩
                have HWa : Aside0 ((wantOf (txt la) (txt lb) ls (grid lb.length i 0)).map clS = keepS (L.map clS)) := ⟨by
                  have h := got_want HLs.out.2.1 HLc.out
                  unfold want at h
                  rw [txt_length, txt_length] at h
                  rw [HE.out, ← h, keep_map]⟩
                rw [HFa.out]
                rw [HWa.out] at HR
                obtain ⟨mb, hmb⟩ : ∃ mb, (bestS (txt la) (txt lb)).1 = mb := ⟨_, rfl⟩
                rw [hmb]
                have HMb := Aside0.mk hmb
                clear hmb
                clear HFa HWa HE HK HGq hi HCm
                have HCl : Aside0 (Calls Tryz.prog 9 #[.slice A7 L.length c7] wr fun e w' => ∃ v, e = .returned v ∧ Kd.R kCl 37 w' wr.heap.size Yes v (L.map clS) ∧ Below wr.heap.size wr w') := ⟨by
                  have h := Ps.clone_cl (L.map clS) A7 c7 wr (by rw [List.length_map]; exact Kd.C_below HCL.out.2.2 HB.out) (by rw [List.length_map]; have := HCL.out.1; omega)
                  rwa [List.length_map] at h⟩
                go_wp2_with fail
                (with_reducible refine HCl.out.mono ?_)
                rintro e w9 ⟨v9, rfl, hr9, hb9⟩
                have HR9 := Aside0.mk hr9
                have HB9 := Aside0.mk hb9
                clear hr9 hb9 HCl
                go_wp2_with fail
                (with_reducible refine (delete_calls w9 wr.heap.size v9 (L.map clS) HR9.out HB9.out.size (by rw [List.length_map]; have := HCL.out.1; omega)).mono ?_)
                rintro e w10 ⟨A10, c10, rfl, hc10, hC10, hb10⟩
                have HB10 : Aside0 (Below wr.heap.size wr w10) := ⟨HB9.out.trans hb10⟩
                have HB10' : Aside0 (Below w7.heap.size w7 w10) := ⟨HB.out.trans (HB10.out.mono HB.out.size)⟩
                have HR10 := Aside0.mk (Kd.R_below HR.out HB10.out)
                have HG := Aside0.mk (And.intro hc10 hC10)
                clear hc10 hC10 hb10 HR9 HB9 HB10 HR HB w9
                clear wr
                have HKl : Aside0 ((keepS (L.map clS)).length ≤ 1024) := ⟨by
                  have h1 := Dl.keepS_len (L.map clS)
                  rw [List.length_map] at h1
                  have := HCL.out.1
                  omega⟩
                obtain ⟨x0, x1, x2, x3⟩ := HX.out _ HB10'.out
                obtain ⟨_, h10a, h10b⟩ := HW7.out _ HB10'.out
                have HBu := Aside0.mk (build A1 c1 la h10a (by have := HLl.out; omega))
                clear h10a h10b
                go_wp2_with fail
                (with_reducible refine HBu.out.mono ?_)
                rintro e w11 ⟨bm, Au, rfl, hm, hbt, hb11⟩
                have HAu := Aside0.mk (And.intro hm hbt)
                have HB11 : Aside0 (Below w7.heap.size w7 w11) := ⟨HB10'.out.trans (hb11.mono HB10'.out.size)⟩
                have HR11 := Aside0.mk (Kd.R_below HR10.out hb11)
                have HG11 := Aside0.mk (And.intro HG.out.1 (Kd.C_below HG.out.2 hb11))
                clear hm hbt hb11 x0 x1 x2 x3 HBu HR10 HG HB10'
                obtain ⟨x0, x1, x2, x3⟩ := HX.out _ HB11.out
                obtain ⟨_, h11a, h11b⟩ := HW7.out _ HB11.out
                have HLo := Aside0.mk (longest_calls A2 c2 lb h11b (by have := HLl.out; omega) HAu.out.1 HAu.out.2 (by rw [txt_length]; have := HLl.out; omega))
                rw [HMb.out] at HLo
                clear h11a h11b
                go_wp2_with fail
                (with_reducible refine HLo.out.mono ?_)
                rintro e w12 ⟨rfl, hb12⟩
                have HB12 : Aside0 (Below w7.heap.size w7 w12) := ⟨HB11.out.trans (hb12.mono HB11.out.size)⟩
                have HR12 := Aside0.mk (Kd.R_below HR11.out hb12)
                have HG12 := Aside0.mk (And.intro HG11.out.1 (Kd.C_below HG11.out.2 hb12))
                clear hb12 x0 x1 x2 x3 HLo HAu HR11 HG11 HMb HB11
                generalize (bestS (txt la) (txt lb)).2.1 = q1
                generalize (bestS (txt la) (txt lb)).2.2 = q2
                obtain ⟨Aw, cw, hvw, hcw, hCw⟩ := Kd.R_reads HR12.out
                subst hvw
                have HCw := Aside0.mk hCw
                have HEq : Aside0 (Calls Tryz.prog 13 #[.slice A10 (keepS (L.map clS)).length c10, .slice Aw (keepS (L.map clS)).length cw] w12 fun e w' => e = .returned (.bool true) ∧ Drawn0 w12 w') := ⟨by
                  have h := equal_calls w12 A10 Aw c10 cw (keepS (L.map clS)) (keepS (L.map clS)) HG12.out.2 hCw (by have := HKl.out; omega) (by have := HKl.out; omega)
                  rwa [show clsEq (keepS (L.map clS)) (keepS (L.map clS)) = true from (clsEq_iff _ _).2 rfl] at h⟩
                clear hcw hCw HR12
                go_wp2_with fail
                (with_reducible refine HEq.out.mono ?_)
                rintro e w13 ⟨rfl, ⟨q13, hq13⟩⟩
                have HB13 : Aside0 (Below w7.heap.size w7 w13) := ⟨by rw [hq13]; exact pw_below_drewN HB12.out _⟩
                have HG13 : Aside0 (Kd.C kCl w13 A10 (keepS (L.map clS)).length (keepS (L.map clS))) := ⟨by rw [hq13]; exact Kd.C_below HG12.out.2 (pw_below_drewN (Below.refl _ _) _)⟩
                clear hq13 HEq HG12 HB12 HCw
                obtain ⟨x0, x1, x2, x3⟩ := HX.out _ HB13.out
                have HFg : Aside0 (Calls Tryz.prog 14 #[.agg #[.string ⟨#[97]⟩, .slice A1 la.length c1], .agg #[.string ⟨#[98]⟩, .slice A2 lb.length c2], .slice A10 (keepS (L.map clS)).length c10, .int .i64 (k : Nat), .int .i64 (wi : Nat)] w13 (BoolPost w13 true)) := ⟨by
                  obtain ⟨h1, h2, h3⟩ := HW7.out _ HB13.out
                  have hlen : (keepS (L.map clS)).length = (L.filter fun c => !decide (c.A = c.B)).length := by rw [← keep_map, List.length_map]
                  have hkl := HKl.out
                  have hll := HLl.out
                  have hG := HG13.out
                  rw [← keep_map, List.length_map] at hG
                  have h := Ps.fingers_calls ⟨⟨#[97]⟩, la⟩ ⟨⟨#[98]⟩, lb⟩ HSa.out HVa.out HSb.out HVb.out A1 A2 A10 c1 c2 c10 w13 h1 h2 HC7.out.1 h3 HC7.out.2.2.1 (by show la.length ≤ _; omega) (by show lb.length ≤ _; omega)
                    (L.filter fun c => !decide (c.A = c.B)) (by omega) hG k wi hk0 (by omega) hw0 (by omega) (fun c hc => by
                      obtain ⟨hc1, hc2⟩ := List.mem_filter.1 hc
                      refine ⟨?_, by simpa using hc2⟩
                      have := (HLc.out.2 c).1 hc1
                      rw [show k + wi - 1 = ls by have := HLs.out; omega]
                      exact this)
                  rw [← hlen] at h
                  exact h⟩
                have HBf : Aside0 (Below w.heap.size w w13) := ⟨HB7.out.trans (HB13.out.mono HB7.out.size)⟩
                go_wp2_with fail
                (with_reducible refine HFg.out.mono ?_)
                rintro e w14 ⟨rfl, hb14⟩
                have HB14 : Aside0 (Below w.heap.size w w14) := ⟨HBf.out.trans (hb14.mono HBf.out.size)⟩
                clear hb14 x0 x1 x2 x3 HFg HG13
                go_wp2_with fail
                go_ret
                exact ⟨rfl, HB14.out⟩
          · clear HC7 HN7 HLc
            go_wp2_with fail
            go_ret
            exact ⟨rfl, HB7.out⟩
        · have hlbb : decide ((60 : Int) < (lb.length : Int)) = true := by simp; omega
          have hlbb2 : decide (60 < lb.length) = true := by simp; omega
          clear hla hlb
          rw [hW5] at HB5
          clear hW5 HN5 HC5
          go_wp2_with fail
          go_ret
          exact ⟨rfl, HB5.out⟩
      · have hlab : decide ((60 : Int) < (la.length : Int)) = true := by simp; omega
        have hlab2 : decide (60 < la.length) = true := by simp; omega
        clear hla
        rw [hW5] at HB5
        clear hW5 HN5 HC5
        go_wp2_with fail
        go_ret
        exact ⟨rfl, HB5.out⟩
    · have htb : decide ((300 : Int) < (t.size : Int)) = true := by simp; omega
      have htb2 : decide (300 < t.size) = true := by simp; omega
      clear hs ht
      go_wp2_with fail
      go_ret
      exact ⟨rfl, HB1.out⟩
  · have hsb : decide ((300 : Int) < (s.size : Int)) = true := by simp; omega
    have hsb2 : decide (300 < s.size) = true := by simp; omega
    clear hs
    go_wp2_with fail
    go_ret
    exact ⟨rfl, HB1.out⟩
theorem law_walk (w : World) (hL : LibAt w) (s t : ByteArray) (names numbers : Bool) (g wd : Int) (g0 : 0 ≤ g) (g1 : g < 256) (d0 : 0 ≤ wd) (d1 : wd < 256) :
    Calls Tryz.prog 3 #[.string s, .string t, .bool names, .bool numbers, .int .u8 g, .int .u8 wd] w fun e w' => e = .returned (.bool true) ∧ Below w.heap.size w w' := by
  obtain ⟨g, rfl⟩ := Int.eq_ofNat_of_zero_le g0
  obtain ⟨wd, rfl⟩ := Int.eq_ofNat_of_zero_le d0
  exact law_walk0 w hL s t names numbers g wd (by omega) (by omega)
end Go.Proofs.YtbakoigejihnaaaGreatDoor.Wp
end
section
namespace Go.Proofs.YtbakoigejihnaaaGreatDoor.Wp
set_option linter.unusedVariables false
theorem g_p10 : Tryz.prog.globalNamed "internal/strconv.uint64pow10" = some 5 := by kernel_rfl
theorem t_p10 : (Tryz.prog.globals[5]?).map (·.type) = some 224 := by kernel_rfl
theorem g_syn : Tryz.prog.globalNamed "strconv.ErrSyntax" = some 3 := by kernel_rfl
theorem t_syn : (Tryz.prog.globals[3]?).map (·.type) = some 101 := by kernel_rfl
theorem star : "*" ++ "errors.errorString" = "*errors.errorString" := by decide
theorem row_err (u : TypeId) (h : Tryz.prog.typeName? 3 u = some "*errors.errorString") : u = 220 :=
  typeName_ptr_named (nm := "errors.errorString") (by rw [star]; kernel_rfl) (by kernel_rfl) (by decide) u (by rw [star]; exact h)
theorem laid_gives {W : World} (h : laidMetH Tryz.prog Rows.topClonesCompleteRow.laid W) : Lib.TabIs Tryz.prog W "internal/strconv.uint64pow10" .u64 Lib.pow10Tab ∧ ∃ te pe, W.cell? ⟨3, 0, none⟩ = some (.iface te pe) := by
  rw [MakeChecks.laidMetH_plain _ _ _ (by kernel_rfl)] at h
  have h2 := h.tail.tail
  refine ⟨Lib.tabIs_of_head g_p10 t_p10 Tryz.underlying224 Tryz.underlying182 (by kernel_rfl) (by kernel_rfl) h2, ?_⟩
  obtain ⟨a0, s0, hv, _⟩ := laid_sentinel h2.tail.tail.tail g_syn t_syn Tryz.underlying101 row_err Tryz.underlying220 Tryz.underlying222 rfl rfl Tryz.underlying9 (by kernel_rfl) (by kernel_rfl)
  exact ⟨_, _, by simpa using World.var?_cell g_syn hv 0⟩
end Go.Proofs.YtbakoigejihnaaaGreatDoor.Wp
end
section
namespace Go.Proofs.YtbakoigejihnaaaGreatDoor.Law
open Go.ChangeShapes Go.WideShapes Go.ChangeAt Go.RowKit
open Go.ChangeMaps (open_string shut_string)
open Wp (LibAt MaxAt)
set_option linter.unusedVariables false

theorem own : ownKnob Tryz.prog.godebug = none := by kernel_rfl
theorem max_at {W : World} (h : W.ShapedOpen Tryz.prog) : MaxAt W := by
  obtain ⟨m, hm⟩ := cell_of_shapedOpen_int (g := 0) (t := 3) (zero := #[.int .i64 0]) h (of_decide_eq_true (by kernel_rfl)) (by kernel_rfl) rfl (by kernel_rfl) (by kernel_rfl) Tryz.underlying3
  have : 0 < W.heap.size := World.block_lt_of_cell? _ _ hm
  exact ⟨by omega, m, hm⟩
theorem lib_at {W : World} (h : W.ShapedOpen Tryz.prog) (hl : laidMetH Tryz.prog Rows.topClonesCompleteRow.laid W) : LibAt W := by
  obtain ⟨ht, te, pe, hc⟩ := Wp.laid_gives hl
  exact ⟨max_at h, ht, _, hc, .inr ⟨te, pe, rfl⟩⟩
theorem u8_range {n : Int} (h : (Lit.int .u8 n).wf = true) : 0 ≤ n ∧ n < 256 := by
  simp [Lit.wf, IntKind.min, IntKind.max, IntKind.signed, IntKind.bits] at h
  omega

theorem laid_met (os : Os) (args : Array Value) : laidMetH Tryz.prog Rows.topClonesCompleteRow.laid ((World.laidAll Tryz.prog os Rows.topClonesCompleteRow.laid).forCall (fun _ _ => 0) ⟨#[], args, []⟩).memory := by
  rw [MakeChecks.laidMetH_plain _ _ _ (by kernel_rfl)]; exact laidMet_laidAll _ (by kernel_rfl) (by kernel_rfl)

abbrev wit : Array Value := #[.string ⟨#[]⟩, .string ⟨#[]⟩, .bool false, .bool false, .int .u8 0, .int .u8 0]

set_option maxRecDepth 100000 in
theorem lifted (os : Os) (started : os.Started) (H : Type) (enc : TypeId × Value → H) (F : Stop.Interp) :
    ReturnsInHanded {} Tryz.checked os 3 .any ((OpenSpec.ofChange Rows.topClonesCompleteSpec).preRow enc Tryz.prog Tryz.f3 Rows.topClonesCompleteRow.domain false Rows.topClonesCompleteRow.laid) (((OpenSpec.ofChange Rows.topClonesCompleteSpec).at F).post enc Tryz.prog Tryz.f3 false true false false) := by
  refine returnsInHanded_of_row (C := Tryz.checked) (s := OpenSpec.ofChange Rows.topClonesCompleteSpec) own started (by kernel_rfl) Tryz.func3 ?witness ?_
  case witness =>
    obtain ⟨places, hx⟩ : ∃ places, DataW.whole enc Tryz.prog ((World.laidAll Tryz.prog os Rows.topClonesCompleteRow.laid).forCall (fun _ _ => 0) ⟨#[], wit, []⟩).memory Tryz.f3.params.toList Rows.topClonesCompleteSpec.vars false wit.toList 8 = some ([.lit (.string []), .lit (.string []), .lit (.bool false), .lit (.bool false), .lit (.int .u8 0), .lit (.int .u8 0)], [], places) := ⟨[], by kernel_rfl⟩
    exact witness_row_at (enc := enc) (C := Tryz.checked) false (World.laidAll Tryz.prog os Rows.topClonesCompleteRow.laid) wit (World.laidAll_os _ _ _) (by kernel_rfl) (by kernel_rfl) (by kernel_rfl)
      (OpenSpec.preRow_of_cond 8 hx (by kernel_rfl) (fun k hk => by cases hk) (by kernel_rfl) (laid_met os _))
  intro W base args ds gs before hval0 hW _ _ _ hlaid hsh _
  have hval : ∀ (j : Nat) t v, Tryz.f3.params[j]? = some t → args[j]? = some v → Value.okWide Tryz.prog W .any base t v := hval0
  have hW' := hW
  obtain ⟨p, q, hA0, hV, rfl, hfz, hnd⟩ := hW
  have hA : DataW.TrodAll enc Tryz.prog W 0 (fun _ => true) true Tryz.f3.params.toList args.toList ds p := hA0
  rw [Tryz.params3] at hA hval
  obtain ⟨v0, vs0, d0, ds0, p0, q0, hargs, rfl, rfl, h0, r0⟩ := trodAll_cons hA
  obtain ⟨v1, vs1, d1, ds1, p1, q1, rfl, rfl, rfl, h1, r1⟩ := trodAll_cons r0
  obtain ⟨v2, vs2, d2, ds2, p2, q2, rfl, rfl, rfl, h2, r2⟩ := trodAll_cons r1
  obtain ⟨v3, vs3, d3, ds3, p3, q3, rfl, rfl, rfl, h3, r3⟩ := trodAll_cons r2
  obtain ⟨v4, vs4, d4, ds4, p4, q4, rfl, rfl, rfl, h4, r4⟩ := trodAll_cons r3
  obtain ⟨v5, vs5, d5, ds5, p5, q5, rfl, rfl, rfl, h5, r5⟩ := trodAll_cons r4
  obtain ⟨rfl, rfl, rfl⟩ := trodAll_nil r5
  obtain rfl : args = #[v0, v1, v2, v3, v4, v5] := by cases args; simp_all
  obtain ⟨rfl, rfl⟩ := trodVars_none hV
  obtain ⟨s0, rfl, rfl, rfl, w0⟩ := open_string Tryz.underlying9 (hval 0 9 v0 rfl rfl) h0
  obtain ⟨s1, rfl, rfl, rfl, w1⟩ := open_string Tryz.underlying9 (hval 1 9 v1 rfl rfl) h1
  obtain ⟨b2, rfl, rfl, rfl⟩ := open_bool Tryz.underlying4 (hval 2 4 v2 rfl rfl) h2
  obtain ⟨b3, rfl, rfl, rfl⟩ := open_bool Tryz.underlying4 (hval 3 4 v3 rfl rfl) h3
  obtain ⟨n4, rfl, rfl, rfl, w4⟩ := open_int Tryz.underlying5 (hval 4 5 v4 rfl rfl) h4
  obtain ⟨n5, rfl, rfl, rfl, w5⟩ := open_int Tryz.underlying5 (hval 5 5 v5 rfl rfl) h5
  obtain ⟨g4, g4'⟩ := u8_range w4
  obtain ⟨g5, g5'⟩ := u8_range w5
  clear hA0 hval0
  refine (Wp.law_walk W (lib_at hsh hlaid) s0 s1 b2 b3 n4 n5 g4 g4' g5 g5').mono fun e W' ⟨he, bel⟩ => ?_
  subst he
  exact ⟨_, rfl, _, _, _, [], _, [], hW', trodAll_mk1 (shut_bool Tryz.underlying4 _), (trodAll_cons_mk (shut_string Tryz.underlying9 w0) (trodAll_cons_mk (shut_string Tryz.underlying9 w1) (trodAll_cons_mk (shut_bool Tryz.underlying4 _) (trodAll_cons_mk (shut_bool Tryz.underlying4 _) (trodAll_cons_mk (shut_int Tryz.underlying5 w4) (trodAll_cons_mk (shut_int Tryz.underlying5 w5) trodAll_mk0)))))), rfl, bel.frame _, fun h => by cases h⟩

theorem said : Rows.TopClonesCompleteSaid :=
  OpenClaim.holds_of_cond 3 Tryz.f3 rfl rfl rfl rfl rfl rfl rfl ⟨rfl, rfl, rfl, rfl, rfl⟩ rfl rfl rfl rfl rfl (by kernel_rfl) Tryz.func3 (by kernel_rfl)
    (of_decide_eq_true (by kernel_rfl)) (by unfold Func.isWrapper; first | (rw [if_pos (by decide +kernel)]; kernel_rfl) | (rw [if_neg (by decide +kernel)]; exact ⟨rfl, rfl⟩))
    (fun os started H enc _ F => by rw [OpenClaim.pre_eq_preRow]; exact lifted os started H enc F)

theorem plain (f : FuncId) (fn : Func) (hf : Tryz.pinned.checked.prog.funcNamed "licit/licittop.TopClonesComplete" = some f) (hfn : Tryz.pinned.checked.prog.funcs[f]? = some fn) :
    true = Tryz.pinned.checked.prog.looks [] ∧ ∀ (j : Nat) t, fn.params[j]? = some t → Tryz.pinned.checked.prog.wantsStandIn t = false := by
  obtain rfl : f = 3 := Option.some.inj ((show Tryz.prog.funcNamed "licit/licittop.TopClonesComplete" = some 3 by kernel_rfl).symm.trans hf) |>.symm
  obtain rfl : fn = Tryz.f3 := (Option.some.inj (Tryz.func3.symm.trans hfn)).symm
  refine ⟨by kernel_rfl, fun j t ht => ?_⟩
  rw [Tryz.params3] at ht
  have hm : t ∈ [9, 9, 4, 4, 5, 5] := by simpa using Array.mem_of_getElem? ht
  have hc : t = 9 ∨ t = 4 ∨ t = 5 := by
    simp only [List.mem_cons, List.mem_nil_iff, or_false] at hm
    rcases hm with h | h | h | h | h | h <;> simp [h]
  rcases hc with rfl | rfl | rfl
  · exact (show Tryz.prog.wantsStandIn 9 = false by kernel_rfl)
  · exact (show Tryz.prog.wantsStandIn 4 = false by kernel_rfl)
  · exact (show Tryz.prog.wantsStandIn 5 = false by kernel_rfl)
end Go.Proofs.YtbakoigejihnaaaGreatDoor.Law
namespace Go.Proofs.YtbakoigejihnaaaGreatDoor
/-- The card. -/
theorem topClonesComplete_holds : Rows.TopClonesCompleteCardSaid :=
  Claim7.holds_tied_plain_at .later [] _ _ _ _ Law.said (fun _ h => by cases h) (by kernel_rfl) (fun _ h => by cases h) topClonesComplete_row_tie rfl ⟨rfl, rfl⟩ (by kernel_rfl) rfl Law.plain (by kernel_rfl)
end Go.Proofs.YtbakoigejihnaaaGreatDoor
end
