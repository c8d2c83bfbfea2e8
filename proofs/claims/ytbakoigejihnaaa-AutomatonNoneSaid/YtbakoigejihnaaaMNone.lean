/- The law AutomatonNone returns true for every input: a nil automaton is that of no words, and too many words are refused. Conditions: none. -/
import Derived.Test.YtbakoigejihnaaaMRef
import Derived.Test.YtbakoigejihnaaaMWalk
import Derived.OpenShut
/- Reference functions: what they compute and that the code computes it. -/
namespace Go.Proofs.Ytbakoigejihnaaa.Ref
open Go.RowKit Go.Proofs.YtbakoigejihnaaaW.PrintWords Go.Proofs.YtbakoigejihnaaaW.PrintLast Go.Proofs.YtbakoigejihnaaaW.PrintMore
attribute [local go_sem] max2_int min2_int max_two min_two max_three min_three max_four min_four   -- for this text's walks alone
set_option linter.unusedVariables false
set_option linter.unusedSimpArgs false

/-! ### licitref27_Ends: function 22 -/
mutual
def licitref27_Ends.l0 : Nat → List (S41) → List (S41) → List Int → Int → Option (List Int)
  | 0, _, _, _, _ => none
  | k + 1, x0, x1, x5, x6 => if x6 < (x1.length : Int) then (licitref27_Ends.l1 k x0 x1 x5 x6 (wrap64 (x6 + 1))) else (some x5)
def licitref27_Ends.l1 : Nat → List (S41) → List (S41) → List Int → Int → Int → Option (List Int)
  | 0, _, _, _, _, _ => none
  | k + 1, x0, x1, x5, x6, x7 => if 0 ≤ (wrap64 ((wrap64 (x6 + 1)) - x7)) then (if (wrap64 ((wrap64 (x6 + 1)) - x7)) ≤ (wrap64 (x6 + 1)) then (if (wrap64 (x6 + 1)) ≤ (x1.length : Int) then ((licitref27_First.f k x0 ((x1.take ((wrap64 (x6 + 1)) : Int).toNat).drop ((wrap64 ((wrap64 (x6 + 1)) - x7)) : Int).toNat)).bind fun t122 => (if t122 < 0 then (licitref27_Ends.l1 k x0 x1 x5 x6 (wrap64 (x7 - 1))) else (if x5.length < 17592186044416 then (licitref27_Ends.l0 k x0 x1 (x5 ++ [x7]) (wrap64 (x6 + 1))) else (none)))) else (none)) else (none)) else (none)
end
def licitref27_Ends.f (k : Nat) (l0 : List (S41)) (l1 : List (S41)) : Option (List Int) := licitref27_Ends.l0 k l0 l1 (([] : List Int)) 0
theorem licitref27_Ends.mono_l : ∀ k, (∀ y0 y1 y2 y3, LeO (licitref27_Ends.l0 k y0 y1 y2 y3) (licitref27_Ends.l0 (k + 1) y0 y1 y2 y3)) ∧ (∀ y0 y1 y2 y3 y4, LeO (licitref27_Ends.l1 k y0 y1 y2 y3 y4) (licitref27_Ends.l1 (k + 1) y0 y1 y2 y3 y4))
  | 0 => ⟨fun _ _ _ _ r h => by simp [licitref27_Ends.l0] at h, fun _ _ _ _ _ r h => by simp [licitref27_Ends.l1] at h⟩
  | k + 1 => by
    obtain ⟨ih0, ih1⟩ := licitref27_Ends.mono_l k
    refine ⟨?_, ?_⟩
    · intro y0 y1 y2 y3
      unfold licitref27_Ends.l0
      repeat' first
      | (with_reducible exact ih0 _ _ _ _)
      | (with_reducible exact ih1 _ _ _ _ _)
      | (with_reducible exact licitref27_First.mono _ _ _)
      | (with_reducible exact LeO.refl _)
      | (with_reducible exact LeO.none _)
      | (with_reducible refine LeO.ite ?_ ?_)
      | (with_reducible refine LeO.bind ?_ (fun _ => ?_))
      | exact ih0 _ _ _ _
      | exact ih1 _ _ _ _ _
      | exact licitref27_First.mono _ _ _
      | exact LeO.none _
      | refine LeO.ite ?_ ?_
      | refine LeO.bind ?_ (fun _ => ?_)
    · intro y0 y1 y2 y3 y4
      unfold licitref27_Ends.l1
      repeat' first
      | (with_reducible exact ih0 _ _ _ _)
      | (with_reducible exact ih1 _ _ _ _ _)
      | (with_reducible exact licitref27_First.mono _ _ _)
      | (with_reducible exact LeO.refl _)
      | (with_reducible exact LeO.none _)
      | (with_reducible refine LeO.ite ?_ ?_)
      | (with_reducible refine LeO.bind ?_ (fun _ => ?_))
      | exact ih0 _ _ _ _
      | exact ih1 _ _ _ _ _
      | exact licitref27_First.mono _ _ _
      | exact LeO.none _
      | refine LeO.ite ?_ ?_
      | refine LeO.bind ?_ (fun _ => ?_)
theorem licitref27_Ends.mono : ∀ a0 a1 k, LeO (licitref27_Ends.f k a0 a1) (licitref27_Ends.f (k + 1) a0 a1) := by
  intro a0 a1 k
  obtain ⟨ih0, ih1⟩ := licitref27_Ends.mono_l k
  unfold licitref27_Ends.f
  repeat' first
      | (with_reducible exact ih0 _ _ _ _)
      | (with_reducible exact ih1 _ _ _ _ _)
      | (with_reducible exact licitref27_First.mono _ _ _)
      | (with_reducible exact LeO.refl _)
      | (with_reducible exact LeO.none _)
      | (with_reducible refine LeO.ite ?_ ?_)
      | (with_reducible refine LeO.bind ?_ (fun _ => ?_))
      | exact ih0 _ _ _ _
      | exact ih1 _ _ _ _ _
      | exact licitref27_First.mono _ _ _
      | exact LeO.none _
      | refine LeO.ite ?_ ?_
      | refine LeO.bind ?_ (fun _ => ?_)
set_option maxHeartbeats 8000000 in
set_option maxRecDepth 100000 in
theorem licitref27_Ends.calls (k : Nat) (A0 : Option Addr) (c0 : Nat) (l0 : List (S41)) (A1 : Option Addr) (c1 : Nat) (l1 : List (S41)) (r : List Int) (w : World) (hr0 : Kd.C k41 w A0 l0.length l0) (hc0 : l0.length ≤ c0) (hr1 : Kd.C k41 w A1 l1.length l1) (hc1 : l1.length ≤ c1) (h : licitref27_Ends.f k l0 l1 = some r) :
    Calls Try.prog 22 #[.slice A0 l0.length c0, .slice A1 l1.length c1] w fun e w' => ∃ v0_ : Value, e = .returned (v0_) ∧ Kd.R (Kd.int .i64) 3 w' w.heap.size (fun _ => True) v0_ r ∧ Below w.heap.size w w' := by
  have HR0 := Aside0.mk hr0
  have HC0 := Aside0.mk hc0
  clear hr0 hc0
  have HR1 := Aside0.mk hr1
  have HC1 := Aside0.mk hc1
  clear hr1 hc1
  have HB := Aside0.mk (Below.refl w.heap.size w)
  have H : (licitref27_Ends.l0 k l0 l1 (([] : List Int)) 0) = some r := h
  clear h
  obtain ⟨y115, hy115⟩ : ∃ y_ : List Int, y_ = (([] : List Int)) := ⟨_, rfl⟩
  replace H : (licitref27_Ends.l0 k l0 l1 y115 0) = some r := by first | (rw [hy115]; with_reducible exact H) | (have H2_ := (Option.bind_some _ _).symm.trans H; rw [hy115]; with_reducible exact H2_) | (have H2_ := (Option.bind_some _ _).symm.trans H; with_reducible exact H2_) | with_reducible exact H | (rw [hy115]; exact H) | exact H
  have Ny115 := Aside0.mk hy115
  clear hy115
  have H' := Aside0.mk H
  clear H
  go_enter Try.func22, Try.ntmps22
  go_wp2_with (first | ((with_reducible refine gate_dst (N := 8) rfl ?_); refine Kd.R_lit (Kd.int .i64) _ 3 ?hg (N := 8) ?hd (xs := ([] : List Int)) (inner := []) (ok := fun _ => True) (okp := fun _ => True) ?hr ?hp (fun _ hk => hk) trivial (Below.refl _ _) (Nat.le_refl _) (by simp) ?_; (case hd => rfl); (case hg => rfl); (case hr => first | (go_simp; done) | (go_simp; rfl)); (case hp => exact (Reps.none _ _)); intro v116 w3 ho4 hb hg_ hnew_; clear hg_ hnew_; (first | rw [← Ny115.out] at ho4 | (simp only [Int.reduceToNat] at ho4; rw [← Ny115.out] at ho4)); have n0_ := Aside0.mk (Kd.R_lower ho4 (below_size (by repeat (first | (with_reducible first | exact HB.out | apply below_alloc | apply pw_below_drewN | apply below_drew1) | exact HB.out)))); have n1_ := Aside0.mk (below_step (by repeat (first | (with_reducible first | exact HB.out | apply below_alloc | apply pw_below_drewN | apply below_drew1) | exact HB.out)) hb); clear HB; have HO117 := n0_; have HB := n1_; clear n0_ n1_; clear hb ho4))
  go_loopg [5, 6] k (fun kq v5 v6 w' => ∃ (x5_1 : List Int) (x6_1 : Int), v6 = .int .i64 x6_1 ∧ Aside0 (licitref27_Ends.l0 kq l0 l1 x5_1 x6_1 = some r) ∧ Aside0 (kq ≤ k) ∧ Aside0 (Kd.R (Kd.int .i64) 3 w' w.heap.size (fun _ => True) v5 x5_1) ∧ Aside0 (Below w.heap.size w w'))
  case atStart => exact ⟨(y115), (0), (by first | rfl | (simp; done) | (simp [*]; done)), H', ⟨Nat.le_refl _⟩, ⟨by (with_reducible repeat (first | apply Kd.R_alloc | apply Kd.R_drewN | apply Kd.R_drew)); exact HO117.out⟩, ⟨by repeat (first | (with_reducible first | exact HB.out | apply below_alloc | apply pw_below_drewN | apply below_drew1) | exact HB.out)⟩⟩
  case round =>
    clear H'
    try clear c1
    try clear c2
    try clear p2
    obtain ⟨x5_1, x6_1, rfl, HA, HK1, HO_5, HB⟩ := hrel
    cases gk with
    | zero => exact absurd HA.out (by simp [licitref27_Ends.l0])
    | succ k1 =>
      have H := HA.out
      clear HA
      simp only [licitref27_Ends.l0] at H
      by_cases c5 : x6_1 < (l1.length : Int)
      · rw [if_pos c5] at H
        have c5b0 : decide (x6_1 < (l1.length : Int)) = true := decide_eq_true c5
        clear c5
        have H' := Aside0.mk H
        clear H
        go_wp2
        go_loopg [7] k1 (fun kq v7 w' => ∃ (x7_2 : Int), v7 = .int .i64 x7_2 ∧ Aside0 (licitref27_Ends.l1 kq l0 l1 x5_1 x6_1 x7_2 = some r) ∧ Aside0 (kq ≤ k1) ∧ Aside0 (Kd.R (Kd.int .i64) 3 w' w.heap.size (fun _ => True) u5 x5_1) ∧ Aside0 (Below w.heap.size w w'))
        case atStart => exact ⟨(wrap64 (x6_1 + 1)), (by first | rfl | (simp; done) | (simp [*]; done)), H', ⟨Nat.le_refl _⟩, ⟨by (with_reducible repeat (first | apply Kd.R_alloc | apply Kd.R_drewN | apply Kd.R_drew)); exact HO_5.out⟩, ⟨by repeat (first | (with_reducible first | exact HB.out | apply below_alloc | apply pw_below_drewN | apply below_drew1) | exact HB.out)⟩⟩
        case round =>
          clear H'
          try clear c1
          try clear c2
          try clear p2
          try clear c5
          try clear c5b0
          try clear p2
          obtain ⟨x7_2, rfl, HA, HK2, HO_5, HB⟩ := hrel
          cases gk with
          | zero => exact absurd HA.out (by simp [licitref27_Ends.l1])
          | succ k2 =>
            have H := HA.out
            clear HA
            simp only [licitref27_Ends.l1] at H
            obtain ⟨ji6, hji6⟩ : ∃ j_ : Int, (wrap64 ((wrap64 (x6_1 + 1)) - x7_2)) = j_ := ⟨_, rfl⟩
            replace H : (if 0 ≤ (ji6) then (if (ji6) ≤ (wrap64 (x6_1 + 1)) then (if (wrap64 (x6_1 + 1)) ≤ (l1.length : Int) then ((licitref27_First.f k2 l0 ((l1.take ((wrap64 (x6_1 + 1)) : Int).toNat).drop ((ji6) : Int).toNat)).bind fun t122 => (if t122 < 0 then (licitref27_Ends.l1 k2 l0 l1 x5_1 x6_1 (wrap64 (x7_2 - 1))) else (if x5_1.length < 17592186044416 then (licitref27_Ends.l0 k2 l0 l1 (x5_1 ++ [x7_2]) (wrap64 (x6_1 + 1))) else (none)))) else (none)) else (none)) else (none)) = some r := by first | (rw [hji6] at H; exact H) | (simp only [hji6] at H ⊢; exact H)
            have hji6w : (IntKind.i64.wrap ((wrap64 (x6_1 + 1)) - x7_2)) = ji6 := (i64_w _).trans hji6
            by_cases c7 : 0 ≤ (ji6)
            · rw [if_pos c7] at H
              have c7b0 := eq_true c7
              have c7b1 : decide (0 ≤ (ji6)) = true := decide_eq_true c7
              clear c7
              by_cases c8 : (ji6) ≤ (wrap64 (x6_1 + 1))
              · rw [if_pos c8] at H
                have c8b0 := eq_true c8
                have c8b1 : decide ((ji6) ≤ (wrap64 (x6_1 + 1))) = true := decide_eq_true c8
                by_cases c9 : (wrap64 (x6_1 + 1)) ≤ (l1.length : Int)
                · rw [if_pos c9] at H
                  have c9b0 := eq_true c9
                  have c9b1 : decide ((wrap64 (x6_1 + 1)) ≤ (l1.length : Int)) = true := decide_eq_true c9
                  obtain ⟨y118, hy118⟩ : ∃ y_ : List (S41), y_ = ((l1.take ((wrap64 (x6_1 + 1)) : Int).toNat).drop ((ji6) : Int).toNat) := ⟨_, rfl⟩
                  replace H : ((licitref27_First.f k2 l0 y118).bind fun t122 => (if t122 < 0 then (licitref27_Ends.l1 k2 l0 l1 x5_1 x6_1 (wrap64 (x7_2 - 1))) else (if x5_1.length < 17592186044416 then (licitref27_Ends.l0 k2 l0 l1 (x5_1 ++ [x7_2]) (wrap64 (x6_1 + 1))) else (none)))) = some r := by first | (rw [hy118]; with_reducible exact H) | (have H2_ := (Option.bind_some _ _).symm.trans H; rw [hy118]; with_reducible exact H2_) | (have H2_ := (Option.bind_some _ _).symm.trans H; with_reducible exact H2_) | with_reducible exact H | (rw [hy118]; exact H) | exact H
                  have Ny118 := Aside0.mk hy118
                  clear hy118
                  replace H := Option.bind_eq_some_iff.mp H
                  obtain ⟨t122, A100, H⟩ := H
                  replace H : (if t122 < 0 then (licitref27_Ends.l1 k2 l0 l1 x5_1 x6_1 (wrap64 (x7_2 - 1))) else (if x5_1.length < 17592186044416 then (licitref27_Ends.l0 k2 l0 l1 (x5_1 ++ [x7_2]) (wrap64 (x6_1 + 1))) else (none))) = some r := H
                  have A10 := Aside0.mk A100
                  clear A100
                  by_cases c11 : t122 < 0
                  · rw [if_pos c11] at H
                    have c11b0 : decide (t122 < 0) = true := decide_eq_true c11
                    clear c11
                    have H' := Aside0.mk H
                    clear H
                    have q12 : ((wrap64 (x6_1 + 1)) : Int) ≤ ((l1.length : Int) : Int) := of_decide_eq_true (by first | (with_reducible assumption) | assumption)
                    obtain ⟨i012, hi012, _, hsz12, _⟩ := info_parts info41
                    have hroom12 : l1.length ≤ c1 := HC1.out
                    have hC12 : Kd.C k41 _ A1 l1.length l1 := HR1.out
                    have ql12 : ((ji6) : Int) ≤ ((wrap64 (x6_1 + 1)) : Int) := of_decide_eq_true (by first | (with_reducible assumption) | assumption)
                    have q012 : (0 : Int) ≤ ((ji6) : Int) := of_decide_eq_true (by first | (with_reducible assumption) | assumption)
                    have hcut12 := cut_mid (P := Try.prog) 22 41 .i64 .i64 Try.underlying22 hi012 2 hsz12 A1 l1.length c1 (ji6) (wrap64 (x6_1 + 1)) q012 ql12 q12 hroom12
                    have hr12 := Kd.C_mid (lo := ((ji6) : Int).toNat) (hi := ((wrap64 (x6_1 + 1)) : Int).toNat) (c := c1) hC12 (by omega) (by omega) hroom12
                    obtain ⟨A12, hA12⟩ : ∃ A1_, A1_ = (if c1 = ((ji6) : Int).toNat then A1 else (A1 : Option Addr).map (·.add (((ji6) : Int).toNat * 2))) := ⟨_, rfl⟩
                    obtain ⟨c12, hc12⟩ : ∃ c1_, c1_ = c1 - ((ji6) : Int).toNat := ⟨_, rfl⟩
                    have hy12 : y118.length = ((wrap64 (x6_1 + 1)) : Int).toNat - ((ji6) : Int).toNat := (by rw [Ny118.out, List.length_drop, List.length_take] <;> omega)
                    rw [show ((l1).take ((wrap64 (x6_1 + 1)) : Int).toNat).drop ((ji6) : Int).toNat = y118 from Ny118.out.symm] at hr12
                    replace hr12 : Kd.C k41 _ A12 y118.length y118 := (by rw [hA12]; exact hr12)
                    rw [← hy12, ← hA12, ← hc12] at hcut12
                    have HR121 := Aside0.mk hr12
                    have HC121 := Aside0.mk (show y118.length ≤ c12 from by rw [hy12, hc12]; exact Nat.sub_le_sub_right (Nat.le_trans (by omega) hroom12) _)
                    clear hr12 hC12 hroom12 hi012 hsz12 hc12
                    have KY12 := Aside0.mk hy12
                    have KA12 := Aside0.mk hA12
                    clear hy12 hA12
                    replace q12 := eq_true q12
                    go_wp2_with (first | ((with_reducible refine gate_callee (f := 24) rfl ?_); refine goesL_ (some 26) rfl rfl Try.func24 (by kernel_rfl) rfl #[.slice A0 l0.length c0, .slice A12 y118.length c12] rfl (by (try simp only [List.map_toArray, List.map_cons, List.map_nil]); first | done | rfl | (simp only [List.length_drop, List.length_take]; rfl)) ?_; (with_reducible refine (licitref27_First.calls k2 _ _ l0 _ _ y118 t122 _ ?side1 ?side2 ?side3 ?side4 A10.out).mono ?_); (case side1 => repeat (first | exact (Kd.C_below HR0.out HB.out) | (with_reducible refine Kd.C_alloc ?_ _) | (with_reducible refine Kd.C_drewN ?_ _) | (with_reducible refine Kd.C_drew ?_))); (case side2 => exact HC0.out); (case side3 => repeat (first | exact (Kd.C_below HR121.out HB.out) | (with_reducible refine Kd.C_alloc ?_ _) | (with_reducible refine Kd.C_drewN ?_ _) | (with_reducible refine Kd.C_drew ?_))); (case side4 => exact HC121.out); rintro e w' ⟨rfl, ⟨nd, rfl⟩⟩; refine ⟨_, rfl, ?_⟩))
                    go_roundg k2
                    case measure => have := HK1.out; have := HK2.out; omega
                    case rel => exact ⟨(wrap64 (x7_2 - 1)), (by first | rfl | (simp; done) | (simp [*]; done)), H', ⟨by have := HK1.out; have := HK2.out; omega⟩, ⟨by (with_reducible repeat (first | apply Kd.R_alloc | apply Kd.R_drewN | apply Kd.R_drew)); exact HO_5.out⟩, ⟨by repeat (first | (with_reducible first | exact HB.out | apply below_alloc | apply pw_below_drewN | apply below_drew1) | exact HB.out)⟩⟩
                  · rw [if_neg c11] at H
                    have c11b0 : decide (t122 < 0) = false := decide_eq_false c11
                    clear c11
                    by_cases c13 : x5_1.length < 17592186044416
                    · rw [if_pos c13] at H
                      have LMc13 := Aside0.mk c13
                      clear c13
                      obtain ⟨y123, hy123⟩ : ∃ y_ : List Int, y_ = (x5_1 ++ [x7_2]) := ⟨_, rfl⟩
                      replace H : (licitref27_Ends.l0 k2 l0 l1 y123 (wrap64 (x6_1 + 1))) = some r := by first | (rw [hy123]; with_reducible exact H) | (have H2_ := (Option.bind_some _ _).symm.trans H; rw [hy123]; with_reducible exact H2_) | (have H2_ := (Option.bind_some _ _).symm.trans H; with_reducible exact H2_) | with_reducible exact H | (rw [hy123]; exact H) | exact H
                      have Ny123 := Aside0.mk hy123
                      clear hy123
                      have H' := Aside0.mk H
                      clear H
                      have q14 : ((wrap64 (x6_1 + 1)) : Int) ≤ ((l1.length : Int) : Int) := of_decide_eq_true (by first | (with_reducible assumption) | assumption)
                      obtain ⟨i014, hi014, _, hsz14, _⟩ := info_parts info41
                      have hroom14 : l1.length ≤ c1 := HC1.out
                      have hC14 : Kd.C k41 _ A1 l1.length l1 := HR1.out
                      have ql14 : ((ji6) : Int) ≤ ((wrap64 (x6_1 + 1)) : Int) := of_decide_eq_true (by first | (with_reducible assumption) | assumption)
                      have q014 : (0 : Int) ≤ ((ji6) : Int) := of_decide_eq_true (by first | (with_reducible assumption) | assumption)
                      have hcut14 := cut_mid (P := Try.prog) 22 41 .i64 .i64 Try.underlying22 hi014 2 hsz14 A1 l1.length c1 (ji6) (wrap64 (x6_1 + 1)) q014 ql14 q14 hroom14
                      have hr14 := Kd.C_mid (lo := ((ji6) : Int).toNat) (hi := ((wrap64 (x6_1 + 1)) : Int).toNat) (c := c1) hC14 (by omega) (by omega) hroom14
                      obtain ⟨A14, hA14⟩ : ∃ A1_, A1_ = (if c1 = ((ji6) : Int).toNat then A1 else (A1 : Option Addr).map (·.add (((ji6) : Int).toNat * 2))) := ⟨_, rfl⟩
                      obtain ⟨c14, hc14⟩ : ∃ c1_, c1_ = c1 - ((ji6) : Int).toNat := ⟨_, rfl⟩
                      have hy14 : y118.length = ((wrap64 (x6_1 + 1)) : Int).toNat - ((ji6) : Int).toNat := (by rw [Ny118.out, List.length_drop, List.length_take] <;> omega)
                      rw [show ((l1).take ((wrap64 (x6_1 + 1)) : Int).toNat).drop ((ji6) : Int).toNat = y118 from Ny118.out.symm] at hr14
                      replace hr14 : Kd.C k41 _ A14 y118.length y118 := (by rw [hA14]; exact hr14)
                      rw [← hy14, ← hA14, ← hc14] at hcut14
                      have HR121 := Aside0.mk hr14
                      have HC121 := Aside0.mk (show y118.length ≤ c14 from by rw [hy14, hc14]; exact Nat.sub_le_sub_right (Nat.le_trans (by omega) hroom14) _)
                      clear hr14 hC14 hroom14 hi014 hsz14 hc14
                      have KY14 := Aside0.mk hy14
                      have KA14 := Aside0.mk hA14
                      clear hy14 hA14
                      replace q14 := eq_true q14
                      go_wp2_with (first | ((with_reducible refine gate_callee (f := 24) rfl ?_); refine goesL_ (some 26) rfl rfl Try.func24 (by kernel_rfl) rfl #[.slice A0 l0.length c0, .slice A14 y118.length c14] rfl (by (try simp only [List.map_toArray, List.map_cons, List.map_nil]); first | done | rfl | (simp only [List.length_drop, List.length_take]; rfl)) ?_; (with_reducible refine (licitref27_First.calls k2 _ _ l0 _ _ y118 t122 _ ?side1 ?side2 ?side3 ?side4 A10.out).mono ?_); (case side1 => repeat (first | exact (Kd.C_below HR0.out HB.out) | (with_reducible refine Kd.C_alloc ?_ _) | (with_reducible refine Kd.C_drewN ?_ _) | (with_reducible refine Kd.C_drew ?_))); (case side2 => exact HC0.out); (case side3 => repeat (first | exact (Kd.C_below HR121.out HB.out) | (with_reducible refine Kd.C_alloc ?_ _) | (with_reducible refine Kd.C_drewN ?_ _) | (with_reducible refine Kd.C_drew ?_))); (case side4 => exact HC121.out); rintro e w' ⟨rfl, ⟨nd, rfl⟩⟩; refine ⟨_, rfl, ?_⟩) | ((with_reducible refine gate_builtin (b := .append) (xs := #[.tmp 30, .tmp 32]) rfl ?_); at_builtin; refine Kd.R_append (Kd.int .i64) (w0 := w) w.heap.size rfl (.tmp 30) (.tmp 32) 35 3 (.int .i64 0) 8 rfl Try.underlying35 info3 rfl (by decide) (by omega) u5 x5_1 x7_2 [.int .i64 x7_2] (fun _ => True) (fun _ => False) rfl rfl ?aP (fun _ hk => hk.elim) ?aF ?aO ?aB ?aS ?aL ?_; (case aP => exact rfl); (case aB => exact (by repeat (first | (with_reducible first | exact HB.out | apply below_alloc | apply pw_below_drewN | apply below_drew1) | exact HB.out))); (case aF => exact (fun _ _ => trivial)); (case aO => exact (by (with_reducible repeat (first | apply Kd.R_alloc | apply Kd.R_drewN | apply Kd.R_drew)); exact HO_5.out)); (case aS => exact (below_size (by repeat (first | (with_reducible first | exact HB.out | apply below_alloc | apply pw_below_drewN | apply below_drew1) | exact HB.out)))); (case aL => have := LMc13.out; omega); intro v124 w15 ho hb hg hat; rw [← Ny123.out] at ho; have n0_ := Aside0.mk (hb); have n1_ := Aside0.mk (ho); clear HB; clear HO_5; have HB := n0_; have HO125 := n1_; clear n0_ n1_; clear ho hb hg hat))
                      go_roundg k2
                      case measure => have := HK1.out; have := HK2.out; omega
                      case rel => exact ⟨(y123), (wrap64 (x6_1 + 1)), (by first | rfl | (simp; done) | (simp [*]; done)), H', ⟨by have := HK1.out; have := HK2.out; omega⟩, ⟨by (with_reducible repeat (first | apply Kd.R_alloc | apply Kd.R_drewN | apply Kd.R_drew)); exact HO125.out⟩, ⟨by repeat (first | (with_reducible first | exact HB.out | apply below_alloc | apply pw_below_drewN | apply below_drew1) | exact HB.out)⟩⟩
                    · rw [if_neg c13] at H
                      exact absurd H (by simp)
                · rw [if_neg c9] at H
                  exact absurd H (by simp)
              · rw [if_neg c8] at H
                exact absurd H (by simp)
            · rw [if_neg c7] at H
              exact absurd H (by simp)
      · rw [if_neg c5] at H
        have c5b0 : decide (x6_1 < (l1.length : Int)) = false := decide_eq_false c5
        clear c5
        obtain rfl := Option.some.inj H
        go_wp2
        go_ret
        exact ⟨_, by first | rfl | (simp [errW_none, errW_some] <;> rfl) | (simp [*, errW_none, errW_some] <;> rfl), by (with_reducible repeat (first | apply Kd.R_alloc | apply Kd.R_drewN | apply Kd.R_drew)); exact HO_5.out, by repeat (first | (with_reducible first | exact HB.out | apply below_alloc | apply pw_below_drewN | apply below_drew1) | exact HB.out)⟩

end Go.Proofs.Ytbakoigejihnaaa.Ref

/- What the reference functions compute, said of the words alone: Ends, and the scan of Longest. -/
set_option linter.unusedSectionVars false
set_option linter.unusedVariables false
namespace Go.Proofs.Ytbakoigejihnaaa.Ref
open Go.RowKit Go.Proofs.YtbakoigejihnaaaW.PrintWords Go.Proofs.YtbakoigejihnaaaW.PrintLast Go.Proofs.YtbakoigejihnaaaW.PrintMore
open Sam (EndsAt Run countS firstS longS endsS nRuns pick bestS)

theorem longS_le {W P : List ByteArray} : ∀ n, longS W P n ≤ n
  | 0 => Nat.le_refl _
  | n + 1 => by
    simp only [longS]
    split
    · exact Nat.le_refl _
    · have := longS_le (W := W) (P := P) n; omega

section
variable {T L : List S41}

theorem ends_inner (hT : T.length ≤ 100000) (hL : L.length ≤ 100000) (i : Nat) (hi : i < L.length) (out : List Int) (hout : out.length = i) (r : List Int) :
    ∀ n, n ≤ i + 1 → Ev (fun k => licitref27_Ends.l0 k T L (out ++ [((longS (txt T) ((txt L).take (i + 1)) n : Nat) : Int)]) ((i + 1 : Nat) : Int)) r → Ev (fun k => licitref27_Ends.l1 k T L out (i : Nat) (n : Nat)) r
  | n, hn, hnext => by
    have e1 : wrap64 ((i : Int) + 1) = ((i + 1 : Nat) : Int) := by rw [w64 (by omega) (by omega)]; omega
    have e2 : wrap64 (((i + 1 : Nat) : Int) - (n : Int)) = ((i + 1 - n : Nat) : Int) := by rw [w64 (by omega) (by omega)]; omega
    have hf := first_ev (T := T) (L := (L.take (i + 1)).drop (i + 1 - n)) hT (by simp; omega)
    rw [txt_drop, txt_take] at hf
    have hl : ((txt L).take (i + 1)).length = i + 1 := by rw [List.length_take, txt_length]; omega
    refine Ev.step ?_
    simp only [licitref27_Ends.l1, e1, e2, Int.toNat_natCast]
    refine Ev.congr (g := fun k => (licitref27_First.f k T ((L.take (i + 1)).drop (i + 1 - n))).bind fun t122 => (if t122 < 0 then (licitref27_Ends.l1 k T L out (i : Nat) (wrap64 ((n : Int) - 1))) else (if out.length < 17592186044416 then (licitref27_Ends.l0 k T L (out ++ [(n : Int)]) ((i + 1 : Nat) : Int)) else (none)))) ?_ (fun k => by rw [if_pos (by omega), if_pos (by omega), if_pos (by omega)])
    refine Ev.bind hf ?_
    by_cases hr : firstS (txt T) (((txt L).take (i + 1)).drop (i + 1 - n)) < 0
    · have hnr := Sam.firstS_neg.1 hr
      cases n with
      | zero =>
        refine (hnr ?_).elim
        rw [Nat.sub_zero, List.drop_of_length_le (by omega)]
        exact Sam.run_nil _
      | succ n =>
        have e3 : wrap64 (((n + 1 : Nat) : Int) - 1) = (n : Int) := by rw [w64 (by omega) (by omega)]; omega
        have hs : longS (txt T) ((txt L).take (i + 1)) (n + 1) = longS (txt T) ((txt L).take (i + 1)) n := by
          simp only [longS]; rw [hl, if_neg hnr]
        rw [hs] at hnext
        have ih := ends_inner hT hL i hi out hout r n (by omega) hnext
        exact ih.congr fun k => by rw [if_pos hr, e3]
    · have hrun : Run (txt T) (((txt L).take (i + 1)).drop (i + 1 - n)) := by
        by_cases g : Run (txt T) (((txt L).take (i + 1)).drop (i + 1 - n))
        · exact g
        · exact (hr (Sam.firstS_neg.2 g)).elim
      have hs : longS (txt T) ((txt L).take (i + 1)) n = n := by
        cases n with
        | zero => rfl
        | succ n => simp only [longS]; rw [hl, if_pos hrun]
      rw [hs] at hnext
      exact hnext.congr fun k => by rw [if_neg hr, if_pos (by omega)]

theorem ends_outer (hT : T.length ≤ 100000) (hL : L.length ≤ 100000) : ∀ (m i : Nat), i + m = L.length → Ev (fun k => licitref27_Ends.l0 k T L (((endsS (txt T) (txt L)).map fun x => ((x : Nat) : Int)).take i) (i : Nat)) ((endsS (txt T) (txt L)).map fun x => ((x : Nat) : Int))
  | 0, i, hi => by
    have hl : ((endsS (txt T) (txt L)).map fun x => ((x : Nat) : Int)).length = L.length := by simp [endsS, txt_length]
    refine Ev.step ((Ev.const _).congr fun k => ?_)
    simp only [licitref27_Ends.l0]
    rw [if_neg (by omega), List.take_of_length_le (by omega)]
  | m + 1, i, hi => by
    have hl : ((endsS (txt T) (txt L)).map fun x => ((x : Nat) : Int)).length = L.length := by simp [endsS, txt_length]
    have e1 : wrap64 ((i : Int) + 1) = ((i + 1 : Nat) : Int) := by rw [w64 (by omega) (by omega)]; omega
    have ih := ends_outer hT hL m (i + 1) (by omega)
    refine Ev.step ?_
    simp only [licitref27_Ends.l0, e1]
    refine Ev.congr (g := fun k => licitref27_Ends.l1 k T L (((endsS (txt T) (txt L)).map fun x => ((x : Nat) : Int)).take i) (i : Nat) ((i + 1 : Nat) : Int)) ?_ (fun k => if_pos (by omega))
    refine ends_inner hT hL i (by omega) _ (by rw [List.length_take]; omega) _ (i + 1) (Nat.le_refl _) ?_
    rw [List.take_succ_eq_append_getElem (by omega)] at ih
    have : ((endsS (txt T) (txt L)).map fun x => ((x : Nat) : Int))[i]'(by omega) = ((longS (txt T) ((txt L).take (i + 1)) (i + 1) : Nat) : Int) := by simp [endsS]
    rw [this] at ih
    exact ih

theorem ends_ev (hT : T.length ≤ 100000) (hL : L.length ≤ 100000) : Ev (fun k => licitref27_Ends.f k T L) ((endsS (txt T) (txt L)).map fun x => ((x : Nat) : Int)) :=
  ends_outer hT hL L.length 0 (by omega)
end

/-! the scan -/
def valAt (W L : List ByteArray) (m : Nat) : Nat × Int × Int :=
  let d := (endsS W L).getD m 0
  if d = 0 then (0, 0, 0) else (d, firstS W ((L.take (m + 1)).drop (m + 1 - d)), (m : Int) + 1 - d)

theorem valAt_len (W L : List ByteArray) (m : Nat) : (valAt W L m).1 = (endsS W L).getD m 0 := by
  unfold valAt
  simp only
  split
  · rename_i h; rw [h]
  · rfl

theorem ends_drop (W L : List ByteArray) {i : Nat} (hi : i < L.length) : (endsS W L).drop i = (endsS W L).getD i 0 :: (endsS W L).drop (i + 1) := by
  have hl : i < (endsS W L).length := by simpa [endsS] using hi
  rw [List.drop_eq_getElem_cons hl]
  simp [List.getD, hl]

theorem ends_getD_le (W L : List ByteArray) (i : Nat) : (endsS W L).getD i 0 ≤ i + 1 := by
  unfold endsS
  rw [List.getD_eq_getElem?_getD, List.getElem?_map]
  by_cases hi : i < L.length
  · rw [List.getElem?_range hi]; exact longS_le _
  · rw [List.getElem?_eq_none (by simpa using hi)]; simp

theorem pick_new (W L : List ByteArray) {i : Nat} (hi : i < L.length) (x : Nat × Int × Int) (h : x.1 < (endsS W L).getD i 0 ∨ (x = (0, 0, 0) ∧ (endsS W L).getD i 0 = 0)) :
    pick W L ((endsS W L).drop i) i x = pick W L ((endsS W L).drop (i + 1)) (i + 1) (valAt W L i) := by
  rw [ends_drop W L hi]
  simp only [pick]
  congr 1
  rcases h with h | ⟨h1, h2⟩
  · rw [if_pos h]; unfold valAt; simp only; rw [if_neg (by omega)]
  · rw [h1, h2]; unfold valAt; simp only; rw [h2]; simp
theorem pick_old (W L : List ByteArray) {i : Nat} (hi : i < L.length) (x : Nat × Int × Int) (h : ¬ x.1 < (endsS W L).getD i 0) :
    pick W L ((endsS W L).drop i) i x = pick W L ((endsS W L).drop (i + 1)) (i + 1) x := by
  rw [ends_drop W L hi]
  simp only [pick]
  rw [if_neg h]
end Go.Proofs.Ytbakoigejihnaaa.Ref

/- The law AutomatonAsks, walked. -/
set_option linter.unusedSectionVars false
set_option linter.unusedSimpArgs false
set_option linter.unusedVariables false
namespace Go.Proofs.Ytbakoigejihnaaa.Law
open Go.RowKit Go.AutoMap Go.Proofs.YtbakoigejihnaaaW.PrintWords Go.Proofs.YtbakoigejihnaaaW.PrintLast Go.Proofs.YtbakoigejihnaaaW.PrintMore
open Sam (Auto Inv countS firstS nRuns endsS bestS Run)
open Ref (S41 k41 txt)
open Wk (Built)

noncomputable def few24 (l : List S41) : Bool := Classical.choose (Ref.few24_ev l)
theorem few24_len {l : List S41} (h : few24 l = true) : l.length ≤ 40 := (Classical.choose_spec (Ref.few24_ev l)).1 h

section
variable (w : World) (A0 A1 : Option Addr) (c0 c1 : Nat) (T L : List S41) (h0 : Kd.C k41 w A0 T.length T) (hc0 : T.length ≤ c0)
include h0 hc0
theorem few24_calls : Calls Try.prog 17 #[.slice A0 T.length c0] w fun e w' => e = .returned (.bool (few24 T)) ∧ Drawn0 w w' := by
  obtain ⟨k, hk⟩ := (Classical.choose_spec (Ref.few24_ev T)).2.get
  exact Ref.licitref24_Few.calls k A0 c0 T _ w h0 hc0 hk
variable (h1 : Kd.C k41 w A1 L.length L) (hc1 : L.length ≤ c1) (hT : T.length ≤ 100000) (hL : L.length ≤ 100000)
include h1 hc1 hT hL
theorem ref_first : Calls Try.prog 24 #[.slice A0 T.length c0, .slice A1 L.length c1] w fun e w' => e = .returned (.int .i64 (firstS (txt T) (txt L))) ∧ Drawn0 w w' := by
  obtain ⟨k, hk⟩ := (Ref.first_ev (T := T) (L := L) hT hL).get
  exact Ref.licitref27_First.calls k A0 c0 T A1 c1 L _ w h0 hc0 h1 hc1 hk
theorem ref_count : Calls Try.prog 26 #[.slice A0 T.length c0, .slice A1 L.length c1] w fun e w' => e = .returned (.int .i64 ((countS (txt T) (txt L) : Nat) : Int)) ∧ Drawn0 w w' := by
  obtain ⟨k, hk⟩ := (Ref.count_ev (T := T) (L := L) hT hL).get
  exact Ref.licitref27_Count.calls k A0 c0 T A1 c1 L _ w h0 hc0 h1 hc1 hk
end

theorem run_first (W L : List ByteArray) : (decide (Run W L) == decide (0 ≤ firstS W L)) = true := by
  by_cases h : Run W L
  · have : ¬ firstS W L < 0 := fun k => Sam.firstS_neg.1 k h
    simp [h]; omega
  · have := Sam.firstS_neg.2 h
    simp [h]; omega

set_option maxHeartbeats 4000000 in
set_option maxRecDepth 100000 in
theorem asks_walk (w : World) (A0 A1 : Option Addr) (c0 c1 : Nat) (T L : List S41) (h0 : Kd.C k41 w A0 T.length T) (hc0 : T.length ≤ c0) (h1 : Kd.C k41 w A1 L.length L) (hc1 : L.length ≤ c1) : Calls Try.prog 5 #[.slice A0 T.length c0, .slice A1 L.length c1] w (Yes w) := by
  have HC0 := Aside0.mk h0
  have HC1 := Aside0.mk h1
  clear h0 h1
  have F0 := Aside0.mk (@few24_len T)
  have F1 := Aside0.mk (@few24_len L)
  go_enter Try.func5, Try.ntmps5
  go_wp2_with (go_at_call 10; refine (awake _).mono ?_; rintro e w1 ⟨rfl, hb1⟩)
  have HB1 := Aside0.mk hb1
  clear hb1
  have HF := Aside0.mk (few24_calls w1 A0 c0 T (Kd.C_below HC0.out HB1.out) hc0)
  generalize few24 T = b0 at HF F0
  cases b0 with
  | false =>
    go_wp2_with (go_at_call 17; with_reducible refine HF.out.mono ?_; rintro e w2 ⟨rfl, hd⟩)
    go_ret
    exact ⟨rfl, drawn0_below HB1.out hd⟩
  | true =>
    have hT := F0.out rfl
    go_wp2_with (go_at_call 17; with_reducible refine HF.out.mono ?_; rintro e w2 ⟨rfl, hd⟩)
    have HB2 : Aside0 (Below w.heap.size w w2) := ⟨drawn0_below HB1.out hd⟩
    clear hd HF HB1 F0
    have HF := Aside0.mk (few24_calls w2 A1 c1 L (Kd.C_below HC1.out HB2.out) hc1)
    generalize few24 L = b1 at HF F1
    cases b1 with
    | false =>
      refine HF.out.mono ?_
      rintro e w3 ⟨rfl, hd⟩
      go_wp2_with fail
      go_ret
      exact ⟨rfl, drawn0_below HB2.out hd⟩
    | true =>
      have hL := F1.out rfl
      refine HF.out.mono ?_
      rintro e w3 ⟨rfl, hd⟩
      have HB3 : Aside0 (Below w.heap.size w w3) := ⟨drawn0_below HB2.out hd⟩
      clear hd HF HB2 F1
      go_wp2_with fail
      refine (build A0 c0 T (Kd.C_below HC0.out HB3.out) (by omega)).mono ?_
      rintro e w4 ⟨ba, A, rfl, hm, hbt, hb4⟩
      have HM := Aside0.mk hm
      have HBt := Aside0.mk hbt
      have HB4 : Aside0 (Below w.heap.size w w4) := ⟨HB3.out.trans (hb4.mono HB3.out.size)⟩
      have hW : (txt T).length ≤ 8192 := by rw [Ref.txt_length]; omega
      clear hm hbt hb4
      go_wp2_with fail
      refine (has A1 c1 L (Kd.C_below HC1.out HB4.out) (by omega) HM.out HBt.out).mono ?_
      rintro e w5 ⟨rfl, hb5⟩
      have HM5 : Aside0 (AutoMem 53 56 w5 w3.heap.size ba A) := ⟨HM.out.below hb5⟩
      have HB5 : Aside0 (Below w.heap.size w w5) := ⟨HB4.out.trans (hb5.mono HB4.out.size)⟩
      clear hb5 HM HB4
      have HRF := fun w' (hb : Below w.heap.size w w') => ref_first w' A0 A1 c0 c1 T L (Kd.C_below HC0.out hb) hc0 (Kd.C_below HC1.out hb) hc1 (by omega) (by omega)
      have HRF := Aside0.mk HRF
      have HEq := run_first (txt T) (txt L)
      go_wp2_with (go_at_call 24; with_reducible refine (HRF.out _ HB5.out).mono ?_; rintro e w6 ⟨rfl, hd⟩)
      have HM6 : Aside0 (AutoMem 53 56 w6 w3.heap.size ba A) := by obtain ⟨q, rfl⟩ := hd; exact ⟨HM5.out.below (bdrew (Below.refl _ _) q)⟩
      have HB6 : Aside0 (Below w.heap.size w w6) := ⟨drawn0_below HB5.out hd⟩
      clear hd HM5 HB5
      refine (count A1 c1 L (Kd.C_below HC1.out HB6.out) (by omega) HM6.out HBt.out).mono ?_
      rintro e w7 ⟨rfl, hb7⟩
      have HM7 : Aside0 (AutoMem 53 56 w7 w3.heap.size ba A) := ⟨HM6.out.below hb7⟩
      have HB7 : Aside0 (Below w.heap.size w w7) := ⟨HB6.out.trans (hb7.mono HB6.out.size)⟩
      clear hb7 HM6 HB6
      have HRC := Aside0.mk (ref_count w7 A0 A1 c0 c1 T L (Kd.C_below HC0.out HB7.out) hc0 (Kd.C_below HC1.out HB7.out) hc1 (by omega) (by omega))
      go_wp2_with (go_at_call 26; with_reducible refine HRC.out.mono ?_; rintro e w8 ⟨rfl, hd⟩)
      have HM8 : Aside0 (AutoMem 53 56 w8 w3.heap.size ba A) := by obtain ⟨q, rfl⟩ := hd; exact ⟨HM7.out.below (bdrew (Below.refl _ _) q)⟩
      have HB8 : Aside0 (Below w.heap.size w w8) := ⟨drawn0_below HB7.out hd⟩
      clear hd HM7 HB7 HRC
      refine (first A1 c1 L (Kd.C_below HC1.out HB8.out) (by omega) HM8.out HBt.out hW).mono ?_
      rintro e w9 ⟨rfl, hb9⟩
      have HB9 : Aside0 (Below w.heap.size w w9) := ⟨HB8.out.trans (hb9.mono HB8.out.size)⟩
      clear hb9 HM8 HB8
      go_wp2_with (go_at_call 24; with_reducible refine (HRF.out _ HB9.out).mono ?_; rintro e w10 ⟨rfl, hd⟩)
      go_ret
      exact ⟨by simp, drawn0_below HB9.out hd⟩
end Go.Proofs.Ytbakoigejihnaaa.Law

/- Plain facts for the laws without the reference: counts of runs that are made longer, words that are not in the text. -/
set_option linter.unusedSectionVars false
set_option linter.unusedVariables false
namespace Sam
section
variable {α : Type} [DecidableEq α]
theorem countS_suffix {T L L' : List α} (h : L <:+ L') : countS T L' ≤ countS T L := by
  unfold countS
  apply List.countP_mono_left
  intro e _ he
  simp only [decide_eq_true_eq] at he ⊢
  exact he.mono h
theorem countS_snoc (T R : List α) (c : α) : countS T (R ++ [c]) ≤ countS T R := by
  have h1 : countS T (R ++ [c]) ≤ (List.range T.length).countP fun e => decide (EndsAt T R e) := by
    unfold countS
    rw [List.range_succ_eq_map, List.countP_cons, List.countP_map]
    rw [if_neg (by simpa using endsAt_snoc_zero)]
    apply List.countP_mono_left
    intro e _ he
    simp only [Function.comp, decide_eq_true_eq] at he ⊢
    exact (endsAt_snoc.1 he).1
  refine Nat.le_trans h1 ?_
  unfold countS
  rw [List.range_succ, List.countP_append]
  omega
theorem countS_nil (T : List α) : countS T [] = T.length + 1 := by
  unfold countS
  rw [List.countP_eq_length.2]
  · simp
  · intro e he
    simp only [List.mem_range] at he
    simpa [endsAt_nil] using (by omega : e ≤ T.length)
theorem firstS_nil (T : List α) : firstS T [] = 0 := by
  rw [firstS_of (e := 0) ((endsAt_nil T 0).2 (Nat.zero_le _)) (fun e' _ => Nat.zero_le _)]; rfl
theorem Run.last_mem {T R : List α} {c : α} (h : Run T (R ++ [c])) : c ∈ T := by
  obtain ⟨e, he⟩ := h
  cases e with
  | zero => exact (endsAt_snoc_zero he).elim
  | succ e => exact List.mem_of_getElem? (endsAt_snoc.1 he).2
theorem Run.count_pos {T R : List α} (h : Run T R) : 1 ≤ countS T R := by
  obtain ⟨e, he⟩ := h
  unfold countS
  have : 0 < (List.range (T.length + 1)).countP fun e => decide (EndsAt T R e) := List.countP_pos_iff.2 ⟨e, by have := he.le; simp; omega, by simpa using he⟩
  omega
theorem countS_le (T L : List α) : countS T L ≤ T.length + 1 := by
  unfold countS
  have := List.countP_le_length (l := List.range (T.length + 1)) (p := fun e => decide (EndsAt T L e))
  simpa using this
/-- a cut of the text is a run, and its first place is no later -/
theorem cut_first {T : List α} {a b : Nat} (h1 : a ≤ b) (h2 : b ≤ T.length) : Run T ((T.take b).drop a) ∧ ∃ at_ : Nat, firstS T ((T.take b).drop a) = at_ ∧ at_ ≤ a ∧ EndsAt T ((T.take b).drop a) (at_ + (b - a)) := by
  have he : EndsAt T ((T.take b).drop a) b := endsAt_cut h2
  have hl : ((T.take b).drop a).length = b - a := by simp; omega
  refine ⟨⟨b, he⟩, ?_⟩
  obtain ⟨e, g1, g2, g3⟩ := Run.first ⟨b, he⟩
  have := g1.len
  have := g2 b he
  rw [hl] at g3
  refine ⟨e - (b - a), by rw [g3]; omega, by omega, ?_⟩
  rwa [show e - (b - a) + (b - a) = e by omega]
end
end Sam
namespace Go.Proofs.Ytbakoigejihnaaa.Law
open Go.RowKit Go.Proofs.YtbakoigejihnaaaW.PrintWords Go.Proofs.YtbakoigejihnaaaW.PrintLast Go.Proofs.YtbakoigejihnaaaW.PrintMore
open Ref (S41 k41 txt)

theorem few24_loop_small {T : List S41} (hT : T.length ≤ 100000) : ∀ (j i : Nat), i + j = T.length → ∀ k, Ref.licitref24_Few.l0 k T (i : Nat) = some true → ∀ p, i ≤ p → p < T.length → (Ref.rd_T41 T (p : Nat)).f0.size ≤ 40
  | 0, i, hi => by intro k _ p hp hpl; omega
  | j + 1, i, hi => by
    intro k hk p hp hpl
    have e2 : wrap64 ((i : Int) + 1) = ((i + 1 : Nat) : Int) := by rw [Ref.w64 (by omega) (by omega)]; omega
    cases k with
    | zero => simp [Ref.licitref24_Few.l0] at hk
    | succ k =>
      simp only [Ref.licitref24_Few.l0, e2] at hk
      rw [if_pos (by omega), if_pos (by omega)] at hk
      by_cases hs : (((Ref.rd_T41 T (i : Nat)).f0).size : Int) > 40
      · rw [if_pos hs] at hk; simp at hk
      · rw [if_neg hs] at hk
        by_cases e : p = i
        · subst e; omega
        · exact few24_loop_small hT j (i + 1) (by omega) k hk p (by omega) hpl

theorem few24_small {l : List S41} (h : few24 l = true) : ∀ x, x ∈ txt l → x.size ≤ 40 := by
  have hlen := few24_len h
  obtain ⟨k, hk⟩ := (Classical.choose_spec (Ref.few24_ev l)).2.get
  have hk' : Ref.licitref24_Few.f k l = some true := by rw [hk]; exact congrArg some h
  unfold Ref.licitref24_Few.f at hk'
  rw [if_neg (by omega)] at hk'
  intro x hx
  obtain ⟨y, hy, rfl⟩ := List.mem_map.1 hx
  obtain ⟨p, hp, rfl⟩ := List.getElem_of_mem hy
  have := few24_loop_small (by omega) l.length 0 (by omega) k hk' p (Nat.zero_le _) hp
  have e : Ref.rd_T41 l (p : Nat) = l[p] := by unfold Ref.rd_T41; simp [List.getD, hp]
  rwa [e] at this
end Go.Proofs.Ytbakoigejihnaaa.Law

/- Plain facts: the longest run is a run of both texts, at both places, and its length does not hang on which is which. -/
set_option linter.unusedSectionVars false
set_option linter.unusedVariables false
namespace Go.Proofs.Ytbakoigejihnaaa.Ref
open Sam (EndsAt Run countS firstS longS endsS nRuns pick bestS)

theorem longS_spec {W P : List ByteArray} : ∀ n, n ≤ P.length → Run W (P.drop (P.length - longS W P n)) ∧ ∀ j, longS W P n < j → j ≤ n → ¬ Run W (P.drop (P.length - j))
  | 0, _ => ⟨by simp only [longS, Nat.sub_zero, List.drop_length]; exact Sam.run_nil _, fun j h1 h2 => by omega⟩
  | n + 1, hn => by
    simp only [longS]
    by_cases h : Run W (P.drop (P.length - (n + 1)))
    · rw [if_pos h]; exact ⟨h, fun j h1 h2 => by omega⟩
    · rw [if_neg h]
      obtain ⟨h1, h2⟩ := longS_spec (W := W) (P := P) n (by omega)
      refine ⟨h1, fun j g1 g2 => ?_⟩
      by_cases e : j = n + 1
      · subst e; exact h
      · exact h2 j g1 (by omega)

section
variable (W L : List ByteArray)

/-- what stands at a place of the row of ends -/
def endAt (i : Nat) : Nat := (endsS W L).getD i 0
theorem endAt_eq {i : Nat} (hi : i < L.length) : endAt W L i = longS W (L.take (i + 1)) (i + 1) := by
  unfold endAt endsS
  rw [List.getD_eq_getElem?_getD, List.getElem?_map, List.getElem?_range hi]; rfl
theorem endAt_le (i : Nat) : endAt W L i ≤ i + 1 := ends_getD_le W L i
theorem endAt_run {i : Nat} (hi : i < L.length) : Run W ((L.take (i + 1)).drop (i + 1 - endAt W L i)) := by
  have hl : (L.take (i + 1)).length = i + 1 := by simp; omega
  have := (longS_spec (W := W) (P := L.take (i + 1)) (i + 1) (by omega)).1
  rw [hl, ← endAt_eq W L hi] at this; exact this
theorem endAt_max {i : Nat} (hi : i < L.length) {j : Nat} (h1 : endAt W L i < j) (h2 : j ≤ i + 1) : ¬ Run W ((L.take (i + 1)).drop (i + 1 - j)) := by
  have hl : (L.take (i + 1)).length = i + 1 := by simp; omega
  have := (longS_spec (W := W) (P := L.take (i + 1)) (i + 1) (by omega)).2 j (by rw [← endAt_eq W L hi]; exact h1) h2
  rwa [hl] at this
theorem endAt_of {i : Nat} (hi : i < L.length) {r : List ByteArray} (h1 : r <:+ L.take (i + 1)) (h2 : Run W r) : r.length ≤ endAt W L i := by
  have hl : (L.take (i + 1)).length = i + 1 := by simp; omega
  have hr := List.suffix_iff_eq_drop.1 h1
  rw [hl] at hr
  have hle := h1.length_le
  rcases Nat.lt_or_ge (endAt W L i) r.length with g | g
  · rw [hr] at h2
    exact (endAt_max W L hi g (by omega) h2).elim
  · exact g
theorem endAt_step {i : Nat} (hi : i + 1 < L.length) : endAt W L (i + 1) ≤ endAt W L i + 1 := by
  have hrun := endAt_run W L hi
  have hle := endAt_le W L (i + 1)
  rcases Nat.eq_zero_or_pos (endAt W L (i + 1)) with g | g
  · omega
  · rw [List.take_succ_eq_append_getElem hi, List.drop_append_of_le_length (by simp; omega)] at hrun
    have h2 := hrun.of_snoc
    have h3 := endAt_of W L (i := i) (by omega) (List.drop_suffix _ _) h2
    rw [List.length_drop, List.length_take, Nat.min_eq_left (by omega)] at h3
    omega

theorem best_from : ∀ (m i p : Nat), i + m = L.length → p < i → (∀ q, q < i → endAt W L q ≤ endAt W L p) → ∃ p', p' < L.length ∧ pick W L ((endsS W L).drop i) i (valAt W L p) = valAt W L p' ∧ ∀ q, q < L.length → endAt W L q ≤ endAt W L p'
  | 0, i, p, hi, hp, hq => by
    refine ⟨p, by omega, ?_, fun q hql => hq q (by omega)⟩
    rw [List.drop_of_length_le (by simp [endsS]; omega)]; rfl
  | m + 1, i, p, hi, hp, hq => by
    by_cases hg : endAt W L p < endAt W L i
    · rw [pick_new W L (by omega) _ (.inl (by rw [valAt_len]; exact hg))]
      refine best_from m (i + 1) i (by omega) (by omega) (fun q hqi => ?_)
      by_cases e : q = i
      · subst e; exact Nat.le_refl _
      · have := hq q (by omega); omega
    · rw [pick_old W L (by omega) _ (by rw [valAt_len]; exact hg)]
      refine best_from m (i + 1) p (by omega) (by omega) (fun q hqi => ?_)
      by_cases e : q = i
      · subst e; omega
      · exact hq q (by omega)

theorem best_at (hL : 0 < L.length) : ∃ p, p < L.length ∧ bestS W L = valAt W L p ∧ ∀ q, q < L.length → endAt W L q ≤ endAt W L p := by
  have h0 : bestS W L = pick W L ((endsS W L).drop (0 + 1)) (0 + 1) (valAt W L 0) := by
    have := pick_new W L (i := 0) hL (0, 0, 0) (by
      rcases Nat.eq_zero_or_pos ((endsS W L).getD 0 0) with g | g
      · exact .inr ⟨rfl, g⟩
      · exact .inl g)
    rw [← this]; rfl
  rw [h0]
  exact best_from W L (L.length - 1) 1 0 (by omega) (by omega) (fun q hq => by
    obtain rfl : q = 0 := by omega
    exact Nat.le_refl _)

/-- the longest run: its length is the greatest of all that are runs of both -/
structure Best (n : Nat) (x y : Int) : Prop where
  len : ∀ r, Run W r → Run L r → r.length ≤ n
  ends : ∀ q, q < L.length → endAt W L q ≤ n
  top : 0 < L.length → ∃ p, p < L.length ∧ endAt W L p = n
  place : ∃ a b : Nat, x = a ∧ y = b ∧ a + n ≤ W.length ∧ b + n ≤ L.length ∧ ∀ k, k < n → W[a + k]? = L[b + k]?
  run : ∃ r, Run W r ∧ Run L r ∧ r.length = n

theorem best_best : Best W L (bestS W L).1 (bestS W L).2.1 (bestS W L).2.2 := by
  rcases Nat.eq_zero_or_pos L.length with h0 | h0
  · have hL : L = [] := List.eq_nil_of_length_eq_zero h0
    subst hL
    have hb : bestS W [] = (0, 0, 0) := rfl
    rw [hb]
    exact ⟨fun r _ h => by have := h.len; simpa using this, fun q hq => by simp at hq, fun h => by simp at h, ⟨0, 0, rfl, rfl, by simp, by simp, fun k hk => by simp at hk⟩, ⟨[], Sam.run_nil _, Sam.run_nil _, rfl⟩⟩
  · obtain ⟨p, hp, hb, hmax⟩ := best_at W L h0
    have hl : (L.take (p + 1)).length = p + 1 := by simp; omega
    have hrun := endAt_run W L hp
    have hle := endAt_le W L p
    have hv : bestS W L = if endAt W L p = 0 then (0, 0, 0) else (endAt W L p, firstS W ((L.take (p + 1)).drop (p + 1 - endAt W L p)), (p : Int) + 1 - endAt W L p) := hb
    have hn : (bestS W L).1 = endAt W L p := by rw [hb]; exact valAt_len W L p
    rw [hn]
    refine ⟨?_, hmax, fun _ => ⟨p, hp, rfl⟩, ?_, ?_⟩
    · intro r h1 h2
      rcases Nat.eq_zero_or_pos r.length with g | g
      · omega
      · obtain ⟨e, he⟩ := h2
        have h3 := he.len
        have h4 := he.le
        have := endAt_of W L (i := e - 1) (by omega) (by rw [show e - 1 + 1 = e by omega]; exact he.2) h1
        have := hmax (e - 1) (by omega)
        omega
    · rw [hv]
      by_cases hz : endAt W L p = 0
      · rw [if_pos hz, hz]; exact ⟨0, 0, rfl, rfl, by simp, by simp, fun k hk => by omega⟩
      · rw [if_neg hz]
        obtain ⟨e, g1, g2, g3⟩ := hrun.first
        have hlr : ((L.take (p + 1)).drop (p + 1 - endAt W L p)).length = endAt W L p := by rw [List.length_drop, hl]; omega
        have h5 := g1.len
        have h6 := g1.le
        rw [hlr] at g3 h5
        refine ⟨e - endAt W L p, p + 1 - endAt W L p, by simp only; rw [g3]; omega, by simp only; omega, by omega, by omega, fun k hk => ?_⟩
        have g1' : EndsAt W ((L.take (p + 1)).drop (p + 1 - endAt W L p)) ((e - endAt W L p) + ((L.take (p + 1)).drop (p + 1 - endAt W L p)).length) := by rw [hlr, Nat.sub_add_cancel h5]; exact g1
        have := (endsAt_iff (by rw [hlr]; omega)).1 g1' k (by rw [hlr]; exact hk)
        rw [this, List.getElem?_drop, List.getElem?_take, if_pos (by omega)]
    · refine ⟨_, hrun, ⟨p + 1, Sam.endsAt_cut (by omega)⟩, ?_⟩
      rw [List.length_drop, hl]; omega

theorem best_same : (bestS W L).1 = (bestS L W).1 := by
  have h1 := best_best W L
  have h2 := best_best L W
  obtain ⟨r1, a1, a2, a3⟩ := h1.run
  obtain ⟨r2, b1, b2, b3⟩ := h2.run
  have := h1.len r2 b2 b1
  have := h2.len r1 a2 a1
  omega
end
end Go.Proofs.Ytbakoigejihnaaa.Ref

/- A nil automaton: the questions, walked. -/
set_option linter.unusedSectionVars false
set_option linter.unusedSimpArgs false
set_option linter.unusedVariables false
namespace Go.Proofs.Ytbakoigejihnaaa.Wk
open Go.RowKit Go.AutoMap Go.Proofs.YtbakoigejihnaaaW.PrintWords Go.Proofs.YtbakoigejihnaaaW.PrintLast Go.Proofs.YtbakoigejihnaaaW.PrintMore
open Sam (Auto upd Inv countS firstS nRuns endsS bestS Run)

theorem states_nil (w : World) : Calls Try.prog 13 #[.pointer none] w fun e w' => e = .returned (.int .i64 1) ∧ w' = w := by
  go_enter Try.func13, Try.ntmps13
  go_wp2_with fail
  go_ret
  exact ⟨rfl, rfl⟩
theorem runs_nil (w : World) : Calls Try.prog 15 #[.pointer none] w fun e w' => e = .returned (.int .i64 0) ∧ w' = w := by
  go_enter Try.func15, Try.ntmps15
  go_wp2_with fail
  go_ret
  exact ⟨rfl, rfl⟩

theorem build_none (w : World) : Calls Try.prog 12 #[.slice none 0 0] w fun e w' => ∃ ba A, e = .returned (.tuple #[.pointer (some ⟨ba, 0, none⟩), .int .i64 0]) ∧ AutoMem 53 56 w' w.heap.size ba A ∧ Built [] A ∧ Below w.heap.size w w' :=
  build_calls w none 0 [] ⟨rfl, by simp, fun h => by simp at h⟩ (by simp)

theorem goto_none {A : Auto ByteArray} (hb : Built [] A) (L : List ByteArray) : A.goto 0 L = if L = [] then some 0 else none := by
  obtain ⟨rep, hg⟩ := hb.good
  by_cases h : L = []
  · subst h; rfl
  · rw [if_neg h]
    have := hg.has L
    cases hgo : A.goto 0 L with
    | none => rfl
    | some s =>
      rw [hgo] at this
      have hr : Run [] L := by simpa using this
      have := hr.len
      exact (h (List.eq_nil_of_length_eq_zero (by simpa using this))).elim
theorem root_none {A : Auto ByteArray} (hb : Built [] A) : A.count 0 = 1 ∧ A.fin 0 = 0 := by
  obtain ⟨rep, hg⟩ := hb.good
  have h1 := hg.count 0 hg.pos
  rw [hg.inv.root, Sam.countS_nil] at h1
  have h2 := hg.fin_le hg.pos
  exact ⟨by simpa using h1, by simpa using h2⟩

def hasNil (n : Nat) : Bool := decide (n = 0)
def countNil (n : Nat) : Int := if n = 0 then 1 else 0
def firstNil (n : Nat) : Int := if n = 0 then 0 else -1

/-- what find hands back: a place in an automaton of no words -/
def FindNil (w : World) (T : List (ByteArray × Int)) (e : Ending) (w' : World) : Prop := ∃ base ba A bs cap xs mb, AutoRep 53 56 w' base ba A bs cap xs mb ∧ Built [] A ∧ e = .returned (placeOf bs (A.goto 0 (T.map (·.1)))) ∧ Below w.heap.size w w'

section
variable (w : World) (A1 : Option Addr) (c1 : Nat) (T : List (ByteArray × Int)) (hT : Kd.C kW w A1 T.length T) (hm : T.length ≤ 100000)
include hT hm

set_option maxHeartbeats 1000000 in
theorem find_nil : Calls Try.prog 38 #[.pointer none, .slice A1 T.length c1] w (FindNil w T) := by
  have HT := Aside0.mk hT
  clear hT
  go_enter Try.func38, Try.ntmps38
  go_wp2_with (go_at_call 12; refine (build_none w).mono ?_; rintro e w2 ⟨ba, A, rfl, hmem, hbt, hb2⟩; obtain ⟨bs, cap, xs, mb, h⟩ := hmem; have H := Aside0.mk h; have HBt := Aside0.mk hbt; have HB2 := Aside0.mk hb2; clear h hbt hb2)
  have hpos := HBt.out.pos
  go_loopg [5, 18] (T.length) (fun kq v5 v18 w' => ∃ (s k : Nat), v5 = .int .i64 s ∧ v18 = .int .i64 k ∧ Aside0 (k + kq = T.length) ∧ s < A.m ∧ Aside0 (A.goto 0 (T.map (·.1)) = A.goto s ((T.map (·.1)).drop k)) ∧ Aside0 (Below w2.heap.size w2 w'))
  case atStart => exact ⟨0, 0, rfl, rfl, ⟨by omega⟩, hpos, ⟨by simp⟩, ⟨Below.refl _ _⟩⟩
  case round =>
    obtain ⟨s, k, rfl, rfl, HK, hs, HG, HB⟩ := hrel
    have hR := H.out.below HB.out
    have HBw : Aside0 (Below w.heap.size w wr) := ⟨HB2.out.trans (HB.out.mono HB2.out.size)⟩
    have hTr := Kd.C_below HT.out HBw.out
    have c0 := hR.cell0
    have hba := hR.head_lt
    have hbs := hR.block.2
    by_cases hk : k < T.length
    · have hkb : decide ((k : Int) < (T.length : Int)) = true := by simpa using hk
      obtain ⟨ad, e1, cw0, cw1⟩ := at_W hTr hk
      subst e1
      have cn := hR.cNext hs
      have hl := fun (o : Obj) (n : Nat) => ((hR.below ((Below.refl _ _).alloc (Nat.le_refl _) o)).drewN n).look_ok (P := Try.prog) Try.underlying51 Try.underlying9 zero3 hs (wd T k).1
      have hdrop : (T.map (·.1)).drop k = (wd T k).1 :: (T.map (·.1)).drop (k + 1) := by
        rw [List.drop_eq_getElem_cons (by simpa using hk)]
        congr 1
        simp [wd, List.getD, hk]
      have HD := Aside0.mk hdrop
      have HR := Aside0.mk hR
      clear hR hTr hdrop
      cases hn : A.next s (wd T k).1 with
      | none =>
        rw [hn] at hl
        have HNn := Aside0.mk hn
        clear hn
        go_wp2
        go_quiet (fail)
        go_wp2
        go_ret
        refine ⟨_, _, A, bs, cap, xs, mb, (HR.out.below ((Below.refl _ _).alloc (Nat.le_refl _) _)).drewN _, HBt.out, ?_, ?_⟩
        · rw [HG.out, HD.out]; simp only [Sam.Auto.goto, HNn.out]; rfl
        · exact bdrew (HBw.out.alloc HBw.out.size _) _
      | some t =>
        rw [hn] at hl
        have HNn := Aside0.mk hn
        clear hn
        go_wp2
        go_quiet (fail)
        go_wp2
        go_roundg (T.length - (k + 1))
        case measure => have := HK.out; omega
        case rel =>
          refine ⟨t, k + 1, rfl, by go_num, ⟨by omega⟩, HBt.out.nextlt _ _ _ hs HNn.out, ⟨?_⟩, ⟨?_⟩⟩
          · rw [HG.out, HD.out]; simp only [Sam.Auto.goto, HNn.out]
          · exact bdrew (HB.out.alloc HB.out.size _) _
    · have hkb : decide ((k : Int) < (T.length : Int)) = false := by simpa using hk
      have HR := Aside0.mk hR
      clear hR hTr
      go_wp2
      go_ret
      refine ⟨_, _, A, bs, cap, xs, mb, HR.out, HBt.out, ?_, HBw.out⟩
      rw [HG.out, List.drop_of_length_le (by simp; omega)]
      rfl

theorem find_nil1 (h0 : T.length ≠ 0) : Calls Try.prog 38 #[.pointer none, .slice A1 T.length c1] w fun e w' => e = .returned (.pointer none) ∧ Below w.heap.size w w' := by
  refine (find_nil w A1 c1 T hT hm).mono ?_
  rintro e w' ⟨base, ba, A, bs, cap, xs, mb, hr, hbt, rfl, hb⟩
  rw [goto_none hbt, if_neg (fun h => h0 (by have := congrArg List.length h; simpa using this))]
  exact ⟨rfl, hb⟩
theorem find_nil0 (h0 : T.length = 0) : Calls Try.prog 38 #[.pointer none, .slice A1 T.length c1] w fun e w' => ∃ bs, e = .returned (.pointer (some ⟨bs, 0, none⟩)) ∧ bs < w'.heap.size ∧ w'.cell? ⟨bs, 2, none⟩ = some (.int .i64 1) ∧ w'.cell? ⟨bs, 3, none⟩ = some (.int .i64 0) ∧ Below w.heap.size w w' := by
  refine (find_nil w A1 c1 T hT hm).mono ?_
  rintro e w' ⟨base, ba, A, bs, cap, xs, mb, hr, hbt, rfl, hb⟩
  rw [goto_none hbt, if_pos (List.eq_nil_of_length_eq_zero (by rw [List.length_map]; exact h0))]
  have c2 := hr.cCount (i := 0) hbt.pos
  have c3 := hr.cFin (i := 0) hbt.pos
  rw [(root_none hbt).1, Nat.zero_mul, Nat.zero_add] at c2
  rw [(root_none hbt).2, Nat.zero_mul, Nat.zero_add] at c3
  exact ⟨bs, by simp only [placeOf, Nat.zero_mul], hr.block.2, c2, c3, hb⟩

theorem has_nil : Calls Try.prog 23 #[.pointer none, .slice A1 T.length c1] w fun e w' => e = .returned (.bool (hasNil T.length)) ∧ Below w.heap.size w w' := by
  by_cases h0 : T.length = 0
  · have F := Aside0.mk (find_nil0 w A1 c1 T hT hm h0)
    have H0 : Aside0 (hasNil T.length = true) := ⟨by unfold hasNil; simp [h0]⟩
    clear h0 hT
    go_enter Try.func23, Try.ntmps23
    go_wp2_with fail
    refine F.out.mono ?_
    rintro e w' ⟨bs, rfl, hbs, c2, c3, hb⟩
    have HB := Aside0.mk hb
    clear hb
    go_wp2_with fail
    go_ret
    exact ⟨by rw [H0.out]; rfl, HB.out⟩
  · have F := Aside0.mk (find_nil1 w A1 c1 T hT hm h0)
    have H0 : Aside0 (hasNil T.length = false) := ⟨by unfold hasNil; simp [h0]⟩
    clear h0 hT
    go_enter Try.func23, Try.ntmps23
    go_wp2_with fail
    refine F.out.mono ?_
    rintro e w' ⟨rfl, hb⟩
    have HB := Aside0.mk hb
    clear hb
    go_wp2_with fail
    go_ret
    exact ⟨by rw [H0.out]; rfl, HB.out⟩

theorem count_nil : Calls Try.prog 25 #[.pointer none, .slice A1 T.length c1] w fun e w' => e = .returned (.int .i64 (countNil T.length)) ∧ Below w.heap.size w w' := by
  by_cases h0 : T.length = 0
  · have F := Aside0.mk (find_nil0 w A1 c1 T hT hm h0)
    have H0 : Aside0 (countNil T.length = 1) := ⟨by unfold countNil; simp [h0]⟩
    clear h0 hT
    go_enter Try.func25, Try.ntmps25
    go_wp2_with fail
    refine F.out.mono ?_
    rintro e w' ⟨bs, rfl, hbs, c2, c3, hb⟩
    have HB := Aside0.mk hb
    clear hb
    go_wp2_with fail
    go_ret
    exact ⟨by rw [H0.out]; rfl, HB.out⟩
  · have F := Aside0.mk (find_nil1 w A1 c1 T hT hm h0)
    have H0 : Aside0 (countNil T.length = 0) := ⟨by unfold countNil; simp [h0]⟩
    clear h0 hT
    go_enter Try.func25, Try.ntmps25
    go_wp2_with fail
    refine F.out.mono ?_
    rintro e w' ⟨rfl, hb⟩
    have HB := Aside0.mk hb
    clear hb
    go_wp2_with fail
    go_ret
    exact ⟨by rw [H0.out]; rfl, HB.out⟩

theorem first_nil : Calls Try.prog 27 #[.pointer none, .slice A1 T.length c1] w fun e w' => e = .returned (.int .i64 (firstNil T.length)) ∧ Below w.heap.size w w' := by
  by_cases h0 : T.length = 0
  · have F := Aside0.mk (find_nil0 w A1 c1 T hT hm h0)
    have H0 : Aside0 (firstNil T.length = 0) := ⟨by unfold firstNil; simp [h0]⟩
    clear hT
    go_enter Try.func27, Try.ntmps27
    go_wp2_with fail
    rw [h0] at F
    refine F.out.mono ?_
    rintro e w' ⟨bs, rfl, hbs, c2, c3, hb⟩
    have HB := Aside0.mk hb
    clear hb
    go_wp2_with fail
    go_ret
    exact ⟨by rw [H0.out]; rfl, HB.out⟩
  · have F := Aside0.mk (find_nil1 w A1 c1 T hT hm h0)
    have H0 : Aside0 (firstNil T.length = -1) := ⟨by unfold firstNil; simp [h0]⟩
    clear h0 hT
    go_enter Try.func27, Try.ntmps27
    go_wp2_with fail
    refine F.out.mono ?_
    rintro e w' ⟨rfl, hb⟩
    have HB := Aside0.mk hb
    clear hb
    go_wp2_with fail
    go_ret
    exact ⟨by rw [H0.out]; rfl, HB.out⟩
end
end Go.Proofs.Ytbakoigejihnaaa.Wk

/- A nil automaton: ends, Ends, Longest; slices.ContainsFunc over zeros. -/
set_option linter.unusedSectionVars false
set_option linter.unusedSimpArgs false
set_option linter.unusedVariables false
namespace Go.Proofs.Ytbakoigejihnaaa.Wk
open Go.RowKit Go.AutoMap Go.Proofs.YtbakoigejihnaaaW.PrintWords Go.Proofs.YtbakoigejihnaaaW.PrintLast Go.Proofs.YtbakoigejihnaaaW.PrintMore
open Sam (Auto upd Inv countS firstS nRuns endsS bestS Run)

section
variable (w : World) (A1 : Option Addr) (c1 n : Nat) (hm : n ≤ 100000)
include hm

set_option maxHeartbeats 1000000 in
set_option maxRecDepth 100000 in
theorem ends_nil : Calls Try.prog 37 #[.pointer none, .slice A1 n c1] w fun e w' => ∃ b1 b2, e = .returned (.tuple #[.slice (some ⟨b1, 0, none⟩) n n, .slice (some ⟨b2, 0, none⟩) n n]) ∧ IntRow w' w.heap.size b1 n (List.replicate n 0) ∧ Below w.heap.size w w' := by
  have hmk := run_make_ints n (by omega)
  have HZ1 : Aside0 (IntRow ((w.alloc (.cells (madeCells #[.int .i64 0] n) 3)).alloc (.cells (madeCells #[.int .i64 0] n) 3)).drew w.heap.size w.heap.size n (List.replicate n 0)) := ⟨(intRow_made w w.heap.size n (Nat.le_refl _) (by omega)).kept (heap_alloc_old _ _ (by simp))⟩
  have HZ2 : Aside0 (IntRow ((w.alloc (.cells (madeCells #[.int .i64 0] n) 3)).alloc (.cells (madeCells #[.int .i64 0] n) 3)).drew w.heap.size (w.heap.size + 1) n (List.replicate n 0)) := by
    have := intRow_made (w.alloc (.cells (madeCells #[.int .i64 0] n) 3)) w.heap.size n (by simp) (by omega)
    rw [show (w.alloc (.cells (madeCells #[.int .i64 0] n) 3)).heap.size = w.heap.size + 1 from by simp] at this
    exact ⟨this.kept rfl⟩
  have HZB : Aside0 (Below w.heap.size w ((w.alloc (.cells (madeCells #[.int .i64 0] n) 3)).alloc (.cells (madeCells #[.int .i64 0] n) 3)).drew) := ⟨(((Below.refl _ _).alloc (Nat.le_refl _) _).alloc (by simp) _).drew⟩
  go_enter Try.func37, Try.ntmps37
  go_wp2_with fail
  go_cut [6, 7] (fun v6 v7 w' => ∃ b1 b2, v6 = .slice (some ⟨b1, 0, none⟩) n n ∧ v7 = .slice (some ⟨b2, 0, none⟩) n n ∧ Aside0 (IntRow w' w.heap.size b1 n (List.replicate n 0)) ∧ Aside0 (Below w.heap.size w w'))
  case first =>
    go_region
    all_goals (go_wp2_with fail)
    all_goals (go_meet; first | exact ⟨_, _, rfl, rfl, HZ1, HZB⟩ | exact ⟨_, _, rfl, rfl, HZ2, HZB⟩)
  case rest =>
    clear hmk
    obtain ⟨b1, b2, rfl, rfl, HR1, HB⟩ := hcut
    go_wp2_with fail
    go_ret2
    exact ⟨_, _, rfl, HR1.out, HB.out⟩

set_option maxHeartbeats 1000000 in
theorem endsOf_nil : Calls Try.prog 21 #[.pointer none, .slice A1 n c1] w fun e w' => ∃ v, e = .returned v ∧ EndsIs w' w.heap.size n (List.replicate n 0) v ∧ Below w.heap.size w w' := by
  have F := Aside0.mk (ends_nil w A1 c1 n hm)
  by_cases hz : n = 0
  · have hzb : ((n : Int) == 0) = true := by rw [beq_iff_eq]; omega
    have HZ := Aside0.mk hz
    clear hz
    go_enter Try.func21, Try.ntmps21
    go_wp2_with (go_at_call 37; refine F.out.mono ?_; rintro e w' ⟨b1, b2, rfl, h1, hb⟩; have H1 := Aside0.mk h1; have HB := Aside0.mk hb; clear h1 hb)
    go_ret
    refine ⟨_, rfl, ?_, HB.out⟩
    unfold EndsIs
    rw [if_pos HZ.out]
    rfl
  · have hzb : ((n : Int) == 0) = false := by rw [beq_eq_false_iff_ne]; omega
    have HZ := Aside0.mk hz
    clear hz
    go_enter Try.func21, Try.ntmps21
    go_wp2_with (go_at_call 37; refine F.out.mono ?_; rintro e w' ⟨b1, b2, rfl, h1, hb⟩; have H1 := Aside0.mk h1; have HB := Aside0.mk hb; clear h1 hb)
    go_ret
    refine ⟨_, rfl, ?_, HB.out⟩
    unfold EndsIs
    rw [if_neg HZ.out]
    exact ⟨_, rfl, H1.out⟩

theorem replicate_getD (i : Nat) : (List.replicate n 0).getD i 0 = 0 := by
  rw [List.getD_eq_getElem?_getD, List.getElem?_replicate]
  split <;> rfl

set_option maxHeartbeats 1000000 in
theorem longest_nil : Calls Try.prog 18 #[.pointer none, .slice A1 n c1] w fun e w' => e = .returned (.tuple #[.int .i64 0, .int .i64 0, .int .i64 0]) ∧ Below w.heap.size w w' := by
  have F := Aside0.mk (ends_nil w A1 c1 n hm)
  have HG := Aside0.mk (replicate_getD n hm)
  go_enter Try.func18, Try.ntmps18
  go_wp2_with (go_at_call 37; refine F.out.mono ?_; rintro e w' ⟨b1, b2, rfl, h1, hb⟩; have H1 := Aside0.mk h1; have HB := Aside0.mk hb; clear h1 hb)
  clear F
  go_loopg [9, 10, 11, 22] n (fun kq v9 v10 v11 v22 w2 => ∃ (i m : Nat), v9 = .int .i64 0 ∧ v10 = .int .i64 0 ∧ v11 = .int .i64 0 ∧ v22 = .int .i64 (i : Nat) ∧ w2 = w'.drewN m ∧ Aside0 (i + kq = n))
  case atStart => exact ⟨0, 0, rfl, rfl, rfl, rfl, rfl, ⟨by omega⟩⟩
  case round =>
    obtain ⟨i, m, rfl, rfl, rfl, rfl, rfl, HK⟩ := hrel
    by_cases hi : i < n
    · have hib : decide ((i : Int) < (n : Int)) = true := by simpa using hi
      have c1' := H1.out.cell hi
      rw [HG.out] at c1'
      go_wp2_with fail
      go_roundg (n - (i + 1))
      case measure => have := HK.out; omega
      case rel => exact ⟨i + 1, _, rfl, rfl, rfl, by go_num, rfl, ⟨by omega⟩⟩
    · have hib : decide ((i : Int) < (n : Int)) = false := by simpa using hi
      go_wp2_with fail
      go_ret3
      exact ⟨rfl, bdrew HB.out _⟩
end

theorem notzero_calls (w : World) : Calls Try.prog 31 #[.int .i64 0] w fun e w' => e = .returned (.bool false) ∧ w' = w := by
  go_enter Try.func31, Try.ntmps31
  go_wp2_with fail
  go_ret
  exact ⟨by first | rfl | simp, rfl⟩

set_option maxHeartbeats 1000000 in
theorem index_zeros (w : World) (A0 : Option Addr) (n c : Nat) (hC : Kd.C (Kd.int .i64) w A0 n ((List.replicate n 0).map fun x => ((x : Nat) : Int))) (hm : n ≤ 100000) :
    Calls Try.prog 40 #[.slice A0 n c, .func (.func 31) #[] #[]] w fun e w' => e = .returned (.int .i64 (-1)) ∧ ∃ m, w' = w.drewN m := by
  have HC := Aside0.mk hC
  clear hC
  go_enter Try.func40, Try.ntmps40
  go_wp2_with fail
  go_loopg [8] n (fun kq v8 w' => ∃ (i m : Nat), v8 = .int .i64 (i : Nat) ∧ w' = w.drewN m ∧ Aside0 (i + kq = n))
  case atStart => exact ⟨0, 0, rfl, rfl, ⟨by omega⟩⟩
  case round =>
    obtain ⟨i, m, rfl, rfl, HK⟩ := hrel
    by_cases hi : i < n
    · have hib : decide ((i : Int) < (n : Int)) = true := by simpa using hi
      obtain ⟨ad, e1, hx⟩ := Kd.at_int HC.out (i : Int) (by omega) (by omega)
      subst e1
      rw [show rd ((List.replicate n 0).map fun x => ((x : Nat) : Int)) (i : Nat) = 0 from by
        unfold rd
        rw [Int.toNat_natCast, List.getD_eq_getElem?_getD, List.getElem?_map, List.getElem?_replicate]
        split <;> rfl, Int.toNat_natCast] at hx
      go_wp2_with fail
      refine (notzero_calls _).mono ?_
      rintro e w' ⟨rfl, rfl⟩
      go_wp2_with fail
      go_roundg (n - (i + 1))
      case measure => have := HK.out; omega
      case rel => exact ⟨i + 1, _, by go_num, rfl, ⟨by have := HK.out; omega⟩⟩
    · have hib : decide ((i : Int) < (n : Int)) = false := by simpa using hi
      go_wp2_with fail
      go_ret
      exact ⟨rfl, _, rfl⟩

theorem contains_zeros (w : World) (A0 : Option Addr) (n c : Nat) (hC : Kd.C (Kd.int .i64) w A0 n ((List.replicate n 0).map fun x => ((x : Nat) : Int))) (hm : n ≤ 100000) :
    Calls Try.prog 30 #[.slice A0 n c, .func (.func 31) #[] #[]] w fun e w' => e = .returned (.bool false) ∧ Below w.heap.size w w' := by
  have F := Aside0.mk (index_zeros w A0 n c hC hm)
  clear hC
  go_enter Try.func30, Try.ntmps30
  go_wp2_with fail
  refine F.out.mono ?_
  rintro e w' ⟨rfl, m, rfl⟩
  go_wp2_with fail
  go_ret
  exact ⟨by first | rfl | simp, bdrew (Below.refl _ _) m⟩

/-- what an automaton of no words answers, in every world behind w0 -/
structure NoneAsks (w0 : World) (p : Value) (A1 : Option Addr) (c1 n : Nat) : Prop where
  longest : ∀ w', Below w0.heap.size w0 w' → Calls Try.prog 18 #[p, .slice A1 n c1] w' fun e w'' => e = .returned (.tuple #[.int .i64 0, .int .i64 0, .int .i64 0]) ∧ Below w'.heap.size w' w''
  has : ∀ w', Below w0.heap.size w0 w' → Calls Try.prog 23 #[p, .slice A1 n c1] w' fun e w'' => e = .returned (.bool (hasNil n)) ∧ Below w'.heap.size w' w''
  states : ∀ w', Below w0.heap.size w0 w' → Calls Try.prog 13 #[p] w' fun e w'' => e = .returned (.int .i64 1) ∧ Below w'.heap.size w' w''
  runs : ∀ w', Below w0.heap.size w0 w' → Calls Try.prog 15 #[p] w' fun e w'' => e = .returned (.int .i64 0) ∧ Below w'.heap.size w' w''
  ends : ∀ w', Below w0.heap.size w0 w' → Calls Try.prog 21 #[p, .slice A1 n c1] w' fun e w'' => ∃ v, e = .returned v ∧ EndsIs w'' w'.heap.size n (List.replicate n 0) v ∧ Below w'.heap.size w' w''
  count : ∀ w', Below w0.heap.size w0 w' → Calls Try.prog 25 #[p, .slice A1 n c1] w' fun e w'' => e = .returned (.int .i64 (countNil n)) ∧ Below w'.heap.size w' w''
  first : ∀ w', Below w0.heap.size w0 w' → Calls Try.prog 27 #[p, .slice A1 n c1] w' fun e w'' => e = .returned (.int .i64 (firstNil n)) ∧ Below w'.heap.size w' w''

theorem asks_nil (w0 : World) (A1 : Option Addr) (c1 : Nat) (T : List (ByteArray × Int)) (hT : Kd.C kW w0 A1 T.length T) (hm : T.length ≤ 100000) : NoneAsks w0 (.pointer none) A1 c1 T.length where
  longest w' hb := longest_nil w' A1 c1 T.length hm
  has w' hb := has_nil w' A1 c1 T (Kd.C_below hT hb) hm
  states w' hb := (states_nil w').mono fun e w'' ⟨h1, h2⟩ => ⟨h1, by rw [h2]; exact Below.refl _ _⟩
  runs w' hb := (runs_nil w').mono fun e w'' ⟨h1, h2⟩ => ⟨h1, by rw [h2]; exact Below.refl _ _⟩
  ends w' hb := endsOf_nil w' A1 c1 T.length hm
  count w' hb := count_nil w' A1 c1 T (Kd.C_below hT hb) hm
  first w' hb := first_nil w' A1 c1 T (Kd.C_below hT hb) hm

theorem endAt_none (L : List ByteArray) {i : Nat} (hi : i < L.length) : Ref.endAt [] L i = 0 := by
  have h1 := (Ref.endAt_run [] L hi).len
  have h2 := Ref.endAt_le [] L i
  rw [List.length_drop, List.length_take, Nat.min_eq_left (by omega), List.length_nil] at h1
  omega
theorem best_none (L : List ByteArray) : bestS [] L = (0, 0, 0) := by
  rcases Nat.eq_zero_or_pos L.length with h | h
  · have : L = [] := List.eq_nil_of_length_eq_zero h
    subst this; rfl
  · obtain ⟨p, hp, hb, _⟩ := Ref.best_at [] L h
    rw [hb]
    have := endAt_none L hp
    unfold Ref.endAt at this
    unfold Ref.valAt
    simp only [this]
    rfl
theorem ends_none (L : List ByteArray) : endsS [] L = List.replicate L.length 0 := by
  have hl : (endsS [] L).length = L.length := by simp [endsS]
  apply List.ext_getElem
  · simp [hl]
  · intro i h1 h2
    have := endAt_none L (i := i) (by omega)
    unfold Ref.endAt at this
    rw [List.getD_eq_getElem?_getD, List.getElem?_eq_getElem h1] at this
    rw [List.getElem_replicate]
    simpa using this
theorem run_none {L : List ByteArray} : Run [] L ↔ L = [] := by
  constructor
  · intro h
    have := h.len
    exact List.eq_nil_of_length_eq_zero (by simpa using this)
  · rintro rfl; exact Sam.run_nil _

theorem asks_built (w0 : World) (base ba : Nat) (A : Auto ByteArray) (hmem : AutoMem 53 56 w0 base ba A) (hb0 : Built [] A) (A1 : Option Addr) (c1 : Nat) (T : List (ByteArray × Int)) (hT : Kd.C kW w0 A1 T.length T) (hm : T.length ≤ 100000) : NoneAsks w0 (.pointer (some ⟨ba, 0, none⟩)) A1 c1 T.length where
  longest w' hb := by
    have := q_longest A1 c1 T (Kd.C_below hT hb) hm (hmem.below hb) hb0 (by simp)
    rwa [best_none] at this
  has w' hb := by
    have := q_has A1 c1 T (Kd.C_below hT hb) hm (hmem.below hb) hb0
    have e : decide (Run [] (T.map (·.1))) = hasNil T.length := by
      unfold hasNil
      simp only [run_none, List.map_eq_nil_iff]
      cases T <;> simp
    rwa [e] at this
  states w' hb := by
    have hm1 : A.m = 1 := by have := hb0.few (by simp); simpa using this
    refine (states_calls w' base ba A (hmem.below hb)).mono ?_
    rintro e w'' ⟨rfl, rfl⟩
    exact ⟨by rw [hm1]; rfl, Below.refl _ _⟩
  runs w' hb := q_runs (hmem.below hb) hb0 (by simp)
  ends w' hb := by
    have := q_ends A1 c1 T (Kd.C_below hT hb) hm (hmem.below hb) hb0 (by simp)
    rwa [ends_none, List.length_map] at this
  count w' hb := by
    have := q_count A1 c1 T (Kd.C_below hT hb) hm (hmem.below hb) hb0
    have e : ((countS [] (T.map (·.1)) : Nat) : Int) = countNil T.length := by
      unfold countNil
      cases T with
      | nil => rfl
      | cons x T => rw [Sam.countS_zero (fun h => by have := run_none.1 h; simp at this)]; simp
    rwa [e] at this
  first w' hb := by
    have := q_first A1 c1 T (Kd.C_below hT hb) hm (hmem.below hb) hb0 (by simp)
    have e : firstS [] (T.map (·.1)) = firstNil T.length := by
      unfold firstNil
      cases T with
      | nil => rfl
      | cons x T => rw [Sam.firstS_none (fun h => by have := run_none.1 h; simp at this)]; simp
    rwa [e] at this
end Go.Proofs.Ytbakoigejihnaaa.Wk

/- Plain facts: how many different runs there are; the reversed text has as many; the counts of the different words add up. -/
set_option linter.unusedSectionVars false
set_option linter.unusedVariables false
namespace Sam
section
variable {α : Type} [DecidableEq α]

theorem run_infix {T r : List α} : Run T r ↔ r <:+: T := by
  constructor
  · rintro ⟨e, h1, h2⟩
    exact h2.isInfix.trans (List.take_prefix _ _).isInfix
  · rintro ⟨s, t, h⟩
    refine ⟨(s ++ r).length, by rw [← h]; simp, ?_⟩
    rw [← h, List.take_append_of_le_length (Nat.le_refl _), List.take_length]
    exact List.suffix_append _ _

theorem run_reverse {T r : List α} : Run T.reverse r ↔ Run T r.reverse := by
  rw [run_infix, run_infix, ← List.reverse_infix, List.reverse_reverse]

theorem nRuns_reverse (T : List α) : nRuns T.reverse = nRuns T := by
  have h : ((runsList T).map List.reverse).length = (runsList T.reverse).length := by
    refine length_eq_of_mem ?_ (nodup_runsList _) ?_
    · rw [List.Nodup, List.pairwise_map]
      exact (nodup_runsList T).imp fun hne h => hne (List.reverse_inj.1 h)
    · intro x
      rw [mem_runsList, List.mem_map]
      constructor
      · rintro ⟨y, hy, rfl⟩
        rw [mem_runsList] at hy
        exact ⟨fun h => hy.1 (List.reverse_eq_nil_iff.1 h), by rw [run_reverse, List.reverse_reverse]; exact hy.2⟩
      · rintro ⟨h1, h2⟩
        exact ⟨x.reverse, mem_runsList.2 ⟨fun h => h1 (List.reverse_eq_nil_iff.1 h), run_reverse.1 h2⟩, List.reverse_reverse _⟩
  rw [List.length_map] at h
  exact h.symm

theorem le_nRuns (T : List α) : T.length ≤ nRuns T := by
  have hnd : ((List.range T.length).map fun k => T.take (k + 1)).Nodup := by
    rw [List.Nodup, List.pairwise_map]
    refine List.Pairwise.imp_of_mem ?_ List.nodup_range
    intro a b ha hb hab h
    simp only [List.mem_range] at ha hb
    have := congrArg List.length h
    simp at this; omega
  have := hnd.length_le_of_subset (l₂ := runsList T) (by
    intro x hx
    obtain ⟨k, hk, rfl⟩ := List.mem_map.1 hx
    simp only [List.mem_range] at hk
    refine mem_runsList.2 ⟨?_, run_infix.2 (List.take_prefix _ _).isInfix⟩
    intro h
    have := congrArg List.length h
    rw [List.length_take, List.length_nil] at this
    omega)
  simpa [nRuns] using this

theorem nRuns_le (T : List α) : 2 * nRuns T ≤ T.length * (T.length + 1) := by
  have key : ∀ (m i : Nat), i + m = T.length → 2 * ((List.range' i m).flatMap fun i => ((List.range (T.length - i)).map fun j => (T.take (i + 1 + j)).drop i).filter fun r => decide (firstS T r = (i : Int))).length ≤ m * (m + 1) := by
    intro m
    induction m with
    | zero => intro i _; simp
    | succ m ih =>
      intro i hi
      rw [List.range'_succ, List.flatMap_cons, List.length_append]
      have h1 := ih (i + 1) (by omega)
      have h2 : (((List.range (T.length - i)).map fun j => (T.take (i + 1 + j)).drop i).filter fun r => decide (firstS T r = (i : Int))).length ≤ m + 1 := by
        refine Nat.le_trans (List.length_filter_le _ _) ?_
        simp; omega
      have h3 : (m + 1) * (m + 1 + 1) = m * (m + 1) + 2 * (m + 1) := by
        rw [Nat.mul_comm (m + 1) (m + 1 + 1), Nat.add_mul, Nat.add_mul, Nat.mul_comm m (m + 1), Nat.add_mul]; omega
      omega
  unfold nRuns runsList
  rw [List.range_eq_range' (n := T.length)]
  exact key T.length 0 (by omega)

/-- one word: it ends where it stands -/
theorem endsAt_one {T : List α} {c : α} {e : Nat} : EndsAt T [c] (e + 1) ↔ T[e]? = some c := by
  have := endsAt_snoc (T := T) (r := []) (c := c) (e := e)
  rw [List.nil_append] at this
  rw [this, endsAt_nil]
  constructor
  · exact fun h => h.2
  · intro h; exact ⟨by have := (List.getElem?_eq_some_iff.1 h).1; omega, h⟩
theorem countS_one (T : List α) (c : α) : countS T [c] = (List.range T.length).countP fun e => decide (T[e]? = some c) := by
  unfold countS
  rw [List.range_succ_eq_map, List.countP_cons, List.countP_map, if_neg (by simpa using (endsAt_snoc_zero (T := T) (r := []) (c := c))), Nat.add_zero]
  congr 1
  funext e
  simp only [Function.comp, Nat.succ_eq_add_one, endsAt_one]
theorem firstS_one {T : List α} {c : α} {i : Nat} (hi : T[i]? = some c) : (firstS T [c] = (i : Int)) ↔ ∀ j, j < i → T[j]? ≠ some c := by
  have hr : Run T [c] := ⟨i + 1, endsAt_one.2 hi⟩
  obtain ⟨e, h1, h2, h3⟩ := hr.first
  rw [h3]
  cases e with
  | zero => exact (endsAt_snoc_zero (r := []) h1).elim
  | succ e =>
    have he := endsAt_one.1 h1
    simp only [List.length_singleton]
    constructor
    · intro h j hj hjc
      have := h2 (j + 1) (endsAt_one.2 hjc)
      omega
    · intro h
      have h4 := h2 (i + 1) (endsAt_one.2 hi)
      rcases Nat.lt_or_ge e i with g | g
      · exact (h e g he).elim
      · omega

/-- the counts of the words, each at its first place -/
def wordSum (T : List α) : Nat → Nat
  | 0 => 0
  | i + 1 => wordSum T i + match T[i]? with
    | none => 0
    | some c => if firstS T [c] = (i : Int) then countS T [c] else 0

theorem wordSum_at (T : List α) : ∀ i, i ≤ T.length → wordSum T i = (List.range T.length).countP fun e => decide (∃ j, j < i ∧ T[j]? = T[e]?) := by
  intro i
  induction i with
  | zero =>
    intro _
    simp only [wordSum]
    refine (List.countP_eq_zero.2 ?_).symm
    intro e _ h
    simp at h
  | succ i ih =>
    intro hi
    have hlt : i < T.length := by omega
    simp only [wordSum, List.getElem?_eq_getElem hlt]
    rw [ih (by omega)]
    have hc : T[i]? = some T[i] := List.getElem?_eq_getElem hlt
    by_cases hf : firstS T [T[i]] = (i : Int)
    · rw [if_pos hf, countS_one]
      have hno := (firstS_one hc).1 hf
      have key : ∀ (R : List Nat), (R.countP fun e => decide (∃ j, j < i ∧ T[j]? = T[e]?)) + (R.countP fun e => decide (T[e]? = some T[i])) = R.countP fun e => decide (∃ j, j < i + 1 ∧ T[j]? = T[e]?) := by
        intro R
        induction R with
        | nil => rfl
        | cons e R ihR =>
          simp only [List.countP_cons, decide_eq_true_eq]
          have h1 : (∃ j, j < i + 1 ∧ T[j]? = T[e]?) ↔ (∃ j, j < i ∧ T[j]? = T[e]?) ∨ T[e]? = some T[i] := by
            constructor
            · rintro ⟨j, hj, h⟩
              by_cases ej : j = i
              · subst ej; exact .inr (by rw [← h, hc])
              · exact .inl ⟨j, by omega, h⟩
            · rintro (⟨j, hj, h⟩ | h)
              · exact ⟨j, by omega, h⟩
              · exact ⟨i, by omega, by rw [h, hc]⟩
          have h2 : ¬ ((∃ j, j < i ∧ T[j]? = T[e]?) ∧ T[e]? = some T[i]) := by
            rintro ⟨⟨j, hj, h⟩, h'⟩
            exact hno j hj (by rw [h, h'])
          by_cases a1 : ∃ j, j < i ∧ T[j]? = T[e]?
          · have a2 : ¬ T[e]? = some T[i] := fun h => h2 ⟨a1, h⟩
            rw [if_pos a1, if_neg a2, if_pos (h1.2 (.inl a1))]; omega
          · by_cases a2 : T[e]? = some T[i]
            · rw [if_neg a1, if_pos a2, if_pos (h1.2 (.inr a2))]; omega
            · rw [if_neg a1, if_neg a2, if_neg (fun h => (h1.1 h).elim a1 a2)]; omega
      exact key _
    · rw [if_neg hf, Nat.add_zero]
      have hex : ∃ j, j < i ∧ T[j]? = some T[i] := by
        rcases Classical.em (∃ j, j < i ∧ T[j]? = some T[i]) with h | h
        · exact h
        · exact (hf ((firstS_one hc).2 fun j hj hjc => h ⟨j, hj, hjc⟩)).elim
      obtain ⟨j0, hj0, h0⟩ := hex
      congr 1
      funext e
      have : (∃ j, j < i ∧ T[j]? = T[e]?) ↔ (∃ j, j < i + 1 ∧ T[j]? = T[e]?) := by
        constructor
        · rintro ⟨j, hj, h⟩; exact ⟨j, by omega, h⟩
        · rintro ⟨j, hj, h⟩
          by_cases ej : j = i
          · subst ej; exact ⟨j0, hj0, by rw [h0, ← h, hc]⟩
          · exact ⟨j, by omega, h⟩
      simp only [this]

theorem wordSum_all (T : List α) : wordSum T T.length = T.length := by
  rw [wordSum_at T _ (Nat.le_refl _), List.countP_eq_length.2]
  · simp
  · intro e he
    simp only [List.mem_range] at he
    simpa using ⟨e, he, rfl⟩
end
end Sam

/- Plain facts: a text of equal words. -/
set_option linter.unusedSectionVars false
namespace Sam
section
variable {α : Type} [DecidableEq α]
theorem run_replicate {n : Nat} {x : α} {r : List α} (h : Run (List.replicate n x) r) : r = List.replicate r.length x := by
  rw [List.eq_replicate_iff]
  refine ⟨rfl, fun b hb => ?_⟩
  have := (run_infix.1 h).subset hb
  exact (List.mem_replicate.1 this).2
theorem nRuns_replicate (n : Nat) (x : α) : nRuns (List.replicate n x) = n := by
  apply Nat.le_antisymm
  · have hnd : ((runsList (List.replicate n x)).map List.length).Nodup := by
      rw [List.Nodup, List.pairwise_map]
      refine List.Pairwise.imp_of_mem ?_ (nodup_runsList _)
      intro a b ha hb hab h
      rw [mem_runsList] at ha hb
      apply hab
      rw [run_replicate ha.2, run_replicate hb.2, h]
    have := hnd.length_le_of_subset (l₂ := List.range' 1 n) (by
      intro k hk
      obtain ⟨r, hr, rfl⟩ := List.mem_map.1 hk
      rw [mem_runsList] at hr
      have h1 := hr.2.len
      rw [List.length_replicate] at h1
      have h2 := List.length_pos_iff.2 hr.1
      simp only [List.mem_range'_1]; omega)
    simpa [nRuns] using this
  · have := le_nRuns (List.replicate n x)
    simpa using this
end
end Sam

/- The law AutomatonNone, walked. -/
set_option linter.unusedSectionVars false
set_option linter.unusedSimpArgs false
set_option linter.unusedVariables false
namespace Go.Proofs.Ytbakoigejihnaaa.Law
open Go.RowKit Go.AutoMap Go.Proofs.YtbakoigejihnaaaW.PrintWords Go.Proofs.YtbakoigejihnaaaW.PrintLast Go.Proofs.YtbakoigejihnaaaW.PrintMore
open Sam (Auto Inv countS firstS nRuns endsS bestS Run)
open Ref (S41 k41 txt)
open Wk (Built EndsIs NoneAsks hasNil countNil firstNil)

def zeroWord : Array Value := #[.string ⟨#[]⟩, .int .i64 0]
theorem run_make_words (n : Nat) (hn : n ≤ 9000) (w : World) : (Instr.makeSlice 22 (.int .i64 n) (.int .i64 n)).run Try.prog w = .ok (.slice (some ⟨w.heap.size, 0, none⟩) n n) (w.alloc (.cells (madeCells zeroWord (n * 2)) 41)) := by
  obtain ⟨i0, hi, hz0, hz1, hz2⟩ := info_parts Ref.info41
  have := run_make (P := Try.prog) w 22 41 i0 (.agg #[(.string ⟨#[]⟩), (.int .i64 0)]) Try.underlying22 hi hz0 .i64 .i64 n n (by omega) (Int.le_refl _) (by rw [hz2]; omega) (by omega)
  rw [hz1] at this
  simpa [Value.cells, zeroWord] using this

theorem C_zero (n : Nat) (hn : n ≤ 9000) (w : World) (W : World) (hW : W.heap[w.heap.size]? = some (.cells (madeCells zeroWord (n * 2)) 41 (0, 0))) : Kd.C k41 W (some ⟨w.heap.size, 0, none⟩) (List.replicate n (⟨⟨#[]⟩, 0⟩ : S41)).length (List.replicate n (⟨⟨#[]⟩, 0⟩ : S41)) := by
  refine ⟨rfl, by rw [List.length_replicate]; omega, fun _ => ⟨_, rfl, fun j p hj => ⟨[.string p.f0, .int .i64 p.f1], rfl, Ref.k41_mk W p, fun i u hu => ?_⟩⟩⟩
  have hjn : j < n := by have := (List.getElem?_eq_some_iff.1 hj).1; simpa using this
  have hp : p = (⟨⟨#[]⟩, 0⟩ : S41) := by
    rw [List.getElem?_replicate, if_pos hjn] at hj
    exact (Option.some.inj hj).symm
  subst hp
  have hi : i < 2 := by have := (List.getElem?_eq_some_iff.1 hu).1; simpa using this
  refine World.news_of_block hW (j * k41.sz + i) u ?_
  show (madeCells zeroWord (n * 2)).toList[j * 2 + i]? = some u
  unfold madeCells
  rw [Array.toList_map, List.getElem?_map, Array.toList_range, List.getElem?_range (by omega)]
  simp only [Option.map_some]
  rw [← hu]
  have h2 : (j * 2 + i) % zeroWord.size = i := by show (j * 2 + i) % 2 = i; omega
  rw [h2]
  match i, hi with
  | 0, _ => rfl
  | 1, _ => rfl

theorem runs_zero (n : Nat) : nRuns (txt (List.replicate n (⟨⟨#[]⟩, 0⟩ : S41))) = n := by
  unfold txt
  rw [List.map_replicate, Sam.nRuns_replicate]
theorem build_zero (n : Nat) (hn : n ≤ 8192) (w W : World) (c : Nat) (hW : W.heap[w.heap.size]? = some (.cells (madeCells zeroWord (n * 2)) 41 (0, 0))) :
    Calls Try.prog 12 #[.slice (some ⟨w.heap.size, 0, none⟩) n c] W fun e w' => ∃ ba A, e = .returned (.tuple #[.pointer (some ⟨ba, 0, none⟩), .int .i64 0]) ∧ AutoMem 53 56 w' W.heap.size ba A ∧ Built (txt (List.replicate n (⟨⟨#[]⟩, 0⟩ : S41))) A ∧ Below W.heap.size W w' := by
  have h := build (some ⟨w.heap.size, 0, none⟩) c (List.replicate n (⟨⟨#[]⟩, 0⟩ : S41)) (C_zero n (by omega) w W hW) (by rw [List.length_replicate]; exact hn)
  rwa [List.length_replicate] at h

set_option maxHeartbeats 4000000 in
set_option maxRecDepth 100000 in
theorem none_walk_nat (w : World) (A0 : Option Addr) (c0 : Nat) (T : List S41) (h0 : Kd.C k41 w A0 T.length T) (hc0 : T.length ≤ c0) (many : Nat) (hmany : many ≤ 255) : Calls Try.prog 8 #[.slice A0 T.length c0, .int .u8 (many : Nat)] w (Yes w) := by
  have HC0 := Aside0.mk h0
  clear h0
  have F0 := Aside0.mk (@few24_len T)
  go_enter Try.func8, Try.ntmps8
  go_wp2_with (go_at_call 10; refine (awake _).mono ?_; rintro e w1 ⟨rfl, hb1⟩)
  have HB1 := Aside0.mk hb1
  clear hb1
  have HF := Aside0.mk (few24_calls w1 A0 c0 T (Kd.C_below HC0.out HB1.out) hc0)
  generalize few24 T = b0 at HF F0
  cases b0 with
  | false =>
    go_wp2_with (go_at_call 17; with_reducible refine HF.out.mono ?_; rintro e w2 ⟨rfl, hd⟩)
    go_ret
    exact ⟨rfl, drawn0_below HB1.out hd⟩
  | true =>
    have hT := F0.out rfl
    go_wp2_with (go_at_call 17; with_reducible refine HF.out.mono ?_; rintro e w2 ⟨rfl, hd⟩)
    have HB2 : Aside0 (Below w.heap.size w w2) := ⟨drawn0_below HB1.out hd⟩
    clear hd HF HB1 F0
    refine (Wk.build_none w2).mono ?_
    rintro e w4 ⟨ba, A, rfl, hm, hbt, hb4⟩
    have HM := Aside0.mk hm
    have HBt := Aside0.mk hbt
    have HB4 : Aside0 (Below w.heap.size w w4) := ⟨HB2.out.trans (hb4.mono HB2.out.size)⟩
    clear hm hbt hb4 HB2
    go_wp2_with fail
    obtain ⟨W0, hW0⟩ : ∃ W0, W0 = w4.alloc (Obj.cells #[Value.pointer none, Value.pointer (some ⟨ba, 0, none⟩)] 25) := ⟨_, rfl⟩
    rw [← hW0]
    have hbl : Below w4.heap.size w4 W0 := by rw [hW0]; exact (Below.refl _ _).alloc (Nat.le_refl _) _
    have hblk : W0.heap[w4.heap.size]? = some (.cells #[Value.pointer none, Value.pointer (some ⟨ba, 0, none⟩)] 25 (0, 0)) := by rw [hW0]; exact heap_alloc_new _ _
    have hlt0 : w4.heap.size < W0.heap.size := by rw [hW0]; simp
    have HB0 : Aside0 (Below w.heap.size w W0) := ⟨HB4.out.trans (hbl.mono HB4.out.size)⟩
    have hCT : Kd.C Wk.kW W0 A0 (T.map two).length (T.map two) := by rw [List.length_map]; exact C_two (Kd.C_below HC0.out HB0.out)
    have ha1 := Wk.asks_nil W0 A0 c0 (T.map two) hCT (by rw [List.length_map]; omega)
    have ha2 := Wk.asks_built W0 w2.heap.size ba A (HM.out.below hbl) HBt.out A0 c0 (T.map two) hCT (by rw [List.length_map]; omega)
    rw [List.length_map] at ha1 ha2
    have HA : Aside0 (∀ i, i < 2 → ∃ p, (∀ W, Below W0.heap.size W0 W → W.cell? ⟨w4.heap.size, i, none⟩ = some p) ∧ NoneAsks W0 p A0 c0 T.length) := ⟨by
      intro i hi
      have hk : ∀ W, Below W0.heap.size W0 W → W.heap[w4.heap.size]? = some (.cells #[Value.pointer none, Value.pointer (some ⟨ba, 0, none⟩)] 25 (0, 0)) := fun W hb => by rw [hb.block _ hlt0]; exact hblk
      match i, hi with
      | 0, _ => exact ⟨.pointer none, fun W hb => World.news_of_block (hk W hb) 0 _ rfl, ha1⟩
      | 1, _ => exact ⟨.pointer (some ⟨ba, 0, none⟩), fun W hb => World.news_of_block (hk W hb) 1 _ rfl, ha2⟩⟩
    have Hlt := Aside0.mk hlt0
    clear hW0 hbl hblk hlt0 hCT ha1 ha2 HM HB4
    go_loopg [28] 2 (fun kq v28 w' => ∃ (i : Nat), v28 = .int .i64 (i : Nat) ∧ Aside0 (i + kq = 2) ∧ Aside0 (Below W0.heap.size W0 w'))
    case atStart => exact ⟨0, rfl, ⟨by omega⟩, ⟨Below.refl _ _⟩⟩
    case round =>
      obtain ⟨i, rfl, HK, HBi⟩ := hrel
      have HBw : Aside0 (Below w.heap.size w wr) := ⟨HB0.out.trans (HBi.out.mono HB0.out.size)⟩
      by_cases hi : i < 2
      · have hib : decide ((i : Int) < 2) = true := by simpa using (by omega : (i : Int) < 2)
        obtain ⟨p, hp, ask⟩ := HA.out i hi
        have hcell := hp wr HBi.out
        have ASK := Aside0.mk ask
        have hlt1 : w4.heap.size < wr.heap.size := by have := Hlt.out; have := HBi.out.size; omega
        clear hp ask
        by_cases hn : T.length = 0
        · have z1 : ((T.length : Int) == 0) = true := by rw [beq_iff_eq]; omega
          have z2 : decide (0 < (T.length : Int)) = false := by rw [decide_eq_false_iff_not]; omega
          have z2' : decide (0 < T.length) = false := by rw [decide_eq_false_iff_not]; omega
          have V1 : Aside0 (hasNil T.length = true) := ⟨by unfold Wk.hasNil; simp [hn]⟩
          have V2 : Aside0 (countNil T.length = 1) := ⟨by unfold Wk.countNil; simp [hn]⟩
          have V3 : Aside0 (firstNil T.length = 0) := ⟨by unfold Wk.firstNil; simp [hn]⟩
          clear hn
          go_wp2_with fail
          refine (ASK.out.longest wr HBi.out).mono ?_
          rintro e wa ⟨rfl, hb⟩
          have HBa : Aside0 (Below W0.heap.size W0 wa) := ⟨HBi.out.trans (hb.mono HBi.out.size)⟩
          clear hb
          go_wp2_with fail
          refine (ASK.out.has wa HBa.out).mono ?_
          rintro e wb ⟨rfl, hb⟩
          rw [V1.out]
          have HBb : Aside0 (Below W0.heap.size W0 wb) := ⟨HBa.out.trans (hb.mono HBa.out.size)⟩
          clear hb
          go_wp2_with fail
          refine (ASK.out.states wb HBb.out).mono ?_
          rintro e wc ⟨rfl, hb⟩
          have HBc : Aside0 (Below W0.heap.size W0 wc) := ⟨HBb.out.trans (hb.mono HBb.out.size)⟩
          clear hb
          go_wp2_with fail
          refine (ASK.out.runs wc HBc.out).mono ?_
          rintro e wd ⟨rfl, hb⟩
          have HBd : Aside0 (Below W0.heap.size W0 wd) := ⟨HBc.out.trans (hb.mono HBc.out.size)⟩
          clear hb
          go_wp2_with fail
          refine (ASK.out.ends wd HBd.out).mono ?_
          rintro e we ⟨v, rfl, hv, hb⟩
          obtain ⟨A7, rfl, hCA7⟩ := ends_reads hv (by simp) (by omega)
          have HCA7 := Aside0.mk hCA7
          have HBe : Aside0 (Below W0.heap.size W0 we) := ⟨HBd.out.trans (hb.mono HBd.out.size)⟩
          clear hb hv hCA7
          go_wp2_with fail
          refine (ASK.out.ends we HBe.out).mono ?_
          rintro e wf ⟨v, rfl, hv, hb⟩
          obtain ⟨A8, rfl, hCA8⟩ := ends_reads hv (by simp) (by omega)
          have HCA8 := Aside0.mk hCA8
          have HBf : Aside0 (Below W0.heap.size W0 wf) := ⟨HBe.out.trans (hb.mono HBe.out.size)⟩
          clear hb hv hCA8
          go_wp2_with fail
          refine (Wk.contains_zeros wf A8 T.length T.length HCA8.out (by omega)).mono ?_
          rintro e wg ⟨rfl, hb⟩
          have HBg : Aside0 (Below W0.heap.size W0 wg) := ⟨HBf.out.trans (hb.mono HBf.out.size)⟩
          clear hb
          go_wp2_with fail
          refine (ASK.out.count wg HBg.out).mono ?_
          rintro e wh ⟨rfl, hb⟩
          rw [V2.out]
          have HBh : Aside0 (Below W0.heap.size W0 wh) := ⟨HBg.out.trans (hb.mono HBg.out.size)⟩
          clear hb
          go_wp2_with fail
          refine (ASK.out.first wh HBh.out).mono ?_
          rintro e wi ⟨rfl, hb⟩
          rw [V3.out]
          have HBj : Aside0 (Below W0.heap.size W0 wi) := ⟨HBh.out.trans (hb.mono HBh.out.size)⟩
          clear hb
          go_wp2_with fail
          go_roundg (gk - 1)
          case measure => have := HK.out; omega
          case rel => exact ⟨i + 1, by go_num, ⟨by have := HK.out; omega⟩, HBj⟩
        · have z1 : ((T.length : Int) == 0) = false := by rw [beq_eq_false_iff_ne]; omega
          have z2 : decide (0 < (T.length : Int)) = true := by rw [decide_eq_true_eq]; omega
          have z2' : decide (0 < T.length) = true := by rw [decide_eq_true_eq]; omega
          have V1 : Aside0 (hasNil T.length = false) := ⟨by unfold Wk.hasNil; simp [hn]⟩
          have V2 : Aside0 (countNil T.length = 0) := ⟨by unfold Wk.countNil; simp [hn]⟩
          have V3 : Aside0 (firstNil T.length = -1) := ⟨by unfold Wk.firstNil; simp [hn]⟩
          clear hn
          go_wp2_with fail
          refine (ASK.out.longest wr HBi.out).mono ?_
          rintro e wa ⟨rfl, hb⟩
          have HBa : Aside0 (Below W0.heap.size W0 wa) := ⟨HBi.out.trans (hb.mono HBi.out.size)⟩
          clear hb
          go_wp2_with fail
          refine (ASK.out.has wa HBa.out).mono ?_
          rintro e wb ⟨rfl, hb⟩
          rw [V1.out]
          have HBb : Aside0 (Below W0.heap.size W0 wb) := ⟨HBa.out.trans (hb.mono HBa.out.size)⟩
          clear hb
          go_wp2_with fail
          refine (ASK.out.states wb HBb.out).mono ?_
          rintro e wc ⟨rfl, hb⟩
          have HBc : Aside0 (Below W0.heap.size W0 wc) := ⟨HBb.out.trans (hb.mono HBb.out.size)⟩
          clear hb
          go_wp2_with fail
          refine (ASK.out.runs wc HBc.out).mono ?_
          rintro e wd ⟨rfl, hb⟩
          have HBd : Aside0 (Below W0.heap.size W0 wd) := ⟨HBc.out.trans (hb.mono HBc.out.size)⟩
          clear hb
          go_wp2_with fail
          refine (ASK.out.ends wd HBd.out).mono ?_
          rintro e we ⟨v, rfl, hv, hb⟩
          obtain ⟨A7, rfl, hCA7⟩ := ends_reads hv (by simp) (by omega)
          have HCA7 := Aside0.mk hCA7
          have HBe : Aside0 (Below W0.heap.size W0 we) := ⟨HBd.out.trans (hb.mono HBd.out.size)⟩
          clear hb hv hCA7
          go_wp2_with fail
          refine (ASK.out.ends we HBe.out).mono ?_
          rintro e wf ⟨v, rfl, hv, hb⟩
          obtain ⟨A8, rfl, hCA8⟩ := ends_reads hv (by simp) (by omega)
          have HCA8 := Aside0.mk hCA8
          have HBf : Aside0 (Below W0.heap.size W0 wf) := ⟨HBe.out.trans (hb.mono HBe.out.size)⟩
          clear hb hv hCA8
          go_wp2_with fail
          refine (Wk.contains_zeros wf A8 T.length T.length HCA8.out (by omega)).mono ?_
          rintro e wg ⟨rfl, hb⟩
          have HBg : Aside0 (Below W0.heap.size W0 wg) := ⟨HBf.out.trans (hb.mono HBf.out.size)⟩
          clear hb
          go_wp2_with fail
          refine (ASK.out.count wg HBg.out).mono ?_
          rintro e wh ⟨rfl, hb⟩
          rw [V2.out]
          have HBh : Aside0 (Below W0.heap.size W0 wh) := ⟨HBg.out.trans (hb.mono HBg.out.size)⟩
          clear hb
          go_wp2_with fail
          refine (ASK.out.first wh HBh.out).mono ?_
          rintro e wi ⟨rfl, hb⟩
          rw [V3.out]
          have HBj : Aside0 (Below W0.heap.size W0 wi) := ⟨HBh.out.trans (hb.mono HBh.out.size)⟩
          clear hb
          go_wp2_with fail
          go_roundg (gk - 1)
          case measure => have := HK.out; omega
          case rel => exact ⟨i + 1, by go_num, ⟨by have := HK.out; omega⟩, HBj⟩
      · have hib : decide ((i : Int) < 2) = false := by simpa using (by omega : ¬ (i : Int) < 2)
        clear HA
        by_cases hm2 : 2 < many
        · have y1 : decide ((2 : Int) < (many : Int)) = true := by simpa using (by omega : (2 : Int) < (many : Int))
          go_wp2_with fail
          go_ret
          exact ⟨rfl, HBw.out⟩
        · have y1 : decide ((2 : Int) < (many : Int)) = false := by simpa using (by omega : ¬ (2 : Int) < (many : Int))
          have hmk := run_make_words (8192 + many) (by omega)
          rw [show (((8192 + many : Nat)) : Int) = 8192 + (many : Int) by omega] at hmk
          go_wp2_with fail
          obtain ⟨W1, hW1⟩ : ∃ W1, W1 = wr.alloc (Obj.cells (madeCells zeroWord ((8192 + many) * 2)) 41) := ⟨_, rfl⟩
          rw [← hW1]
          have hblk : W1.heap[wr.heap.size]? = some (.cells (madeCells zeroWord ((8192 + many) * 2)) 41 (0, 0)) := by rw [hW1]; exact heap_alloc_new _ _
          have HBx : Aside0 (Below w.heap.size w W1) := ⟨by rw [hW1]; exact HBw.out.alloc HBw.out.size _⟩
          clear hW1 hmk
          obtain ⟨k, hk⟩ : ∃ k, k = 8192 + many := ⟨_, rfl⟩
          rw [← hk] at hblk
          rw [← hk]
          have Hk := Aside0.mk hk
          by_cases hm0 : many = 0
          · have hk8 : k ≤ 8192 := by omega
            have y2 : ((many : Int) == 0) = true := by rw [beq_iff_eq]; omega
            have y3 : decide (0 < (many : Int)) = false := by rw [decide_eq_false_iff_not]; omega
            have y3' : decide (0 < many) = false := by rw [decide_eq_false_iff_not]; omega
            have qb := build_zero k hk8 wr W1 k hblk
            clear hblk hk
            refine qb.mono ?_
            clear qb
            rintro e wz ⟨bz, Z, rfl, hmz, hbz, hb⟩
            have HMz := Aside0.mk hmz
            have HBz := Aside0.mk hbz
            have HBy : Aside0 (Below w.heap.size w wz) := ⟨HBx.out.trans (hb.mono HBx.out.size)⟩
            clear hmz hbz hb
            go_wp2_with fail
            refine (Wk.q_runs HMz.out HBz.out (by rw [Ref.txt_length, List.length_replicate]; exact hk8)).mono ?_
            rintro e wy ⟨rfl, hb⟩
            rw [runs_zero, show k = 8192 by have := Hk.out; omega]
            go_wp2_with fail
            go_ret
            exact ⟨by first | rfl | (simp; done), HBy.out.trans (hb.mono HBy.out.size)⟩
          · have y2 : ((many : Int) == 0) = false := by rw [beq_eq_false_iff_ne]; omega
            have y3 : decide (0 < (many : Int)) = true := by rw [decide_eq_true_eq]; omega
            have y3' : decide (0 < many) = true := by rw [decide_eq_true_eq]; omega
            have qb := Wk.build_large k k (some ⟨wr.heap.size, 0, none⟩) W1 (by omega) (by omega)
            clear hblk hk
            refine qb.mono ?_
            clear qb
            rintro e wz ⟨rfl, rfl⟩
            go_wp2_with fail
            go_ret
            exact ⟨by first | rfl | (simp; done), HBx.out⟩

theorem none_walk (w : World) (A0 : Option Addr) (c0 : Nat) (T : List S41) (h0 : Kd.C k41 w A0 T.length T) (hc0 : T.length ≤ c0) (a : Int) (wa : (Lit.int .u8 a).wf = true) : Calls Try.prog 8 #[.slice A0 T.length c0, .int .u8 a] w (Yes w) := by
  have ha := bounds_u8 wa
  obtain ⟨i, rfl⟩ : ∃ i : Nat, a = i := ⟨a.toNat, by omega⟩
  exact none_walk_nat w A0 c0 T h0 hc0 i (by omega)
end Go.Proofs.Ytbakoigejihnaaa.Law

/- A nil automaton is that of no words, and too many words are refused: the row of AutomatonNone, out of the law's walk. -/
namespace Go.Proofs.Ytbakoigejihnaaa.Law
open Go.ChangeShapes Go.WideShapes Go.ChangeAt Go.RowKit
open Go.ChangeMaps (open_string shut_string)
set_option linter.unusedVariables false

set_option maxRecDepth 100000 in
theorem none_lifted (os : Os) (started : os.Started) (H : Type) (enc : TypeId × Value → H) :
    ReturnsInHanded {} Try.checked os 8 .any (Rows.automatonNoneSpec.pre6 enc Try.prog Try.f8 Rows.automatonNoneRow.domain false) (Rows.automatonNoneSpec.post enc Try.prog Try.f8 false true false false) := by
  refine returnsInHanded_of_change_sized (C := Try.checked) own started (by kernel_rfl) Try.func8
    (ChangeSpec.witness6 (enc := enc) (C := Try.checked) false ⟨#[], #[.slice none 0 0, .int .u8 0], []⟩ 8 (by kernel_rfl) (by kernel_rfl) (by kernel_rfl) (by kernel_rfl)) ?_
  intro W base args ds gs before hval0 hW hcnd hsz0 _
  have hval : ∀ (j : Nat) t v, Try.f8.params[j]? = some t → args[j]? = some v → Value.okWide Try.prog W .any base t v := hval0
  have hW' := hW
  obtain ⟨p, q, hA0, hV, rfl, hfz, hnd⟩ := hW
  have hA : DataW.TrodAll enc Try.prog W 0 (fun _ => true) true Try.f8.params.toList args.toList ds p := hA0
  rw [Try.params8] at hA hval
  obtain ⟨v0, vs0, d0, ds0, p0, q0, hargs, rfl, rfl, h0, r0⟩ := trodAll_cons hA
  obtain ⟨v1, vs1, d1, ds1, p1, q1, rfl, rfl, rfl, h1, r1⟩ := trodAll_cons r0
  obtain ⟨rfl, rfl, rfl⟩ := trodAll_nil r1
  obtain rfl : args = #[v0, v1] := by cases args; simp_all
  obtain ⟨rfl, rfl⟩ := trodVars_none hV
  obtain ⟨a0, len0, cap0, rfl⟩ := okWide_slice Try.underlying22 (hval 0 22 v0 rfl rfl)
  have k0 := h0
  have lt0 : ∀ x ∈ p0, x.block < W.heap.size := by obtain ⟨m, hm⟩ := k0; exact DataW.trod_lt m _ _ _ hm
  obtain ⟨l0, rfl, hl0, hC0⟩ := open_words h0
  obtain ⟨a1, rfl, rfl, rfl, w1⟩ := open_int Try.underlying5 (hval 1 5 v1 rfl rfl) h1
  clear hA0 hval0 hsz0
  refine (none_walk W a0 cap0 l0 hC0 hl0 a1 w1).mono fun e W' ⟨he, bel⟩ => ?_
  subst he
  exact ⟨_, rfl, _, _, _, [], _, [], hW', trodAll_mk1 (shut_bool Try.underlying4 _), (trodAll_cons_mk (Below.trod laidOut (by kernel_rfl) (of_decide_eq_true (by kernel_rfl)) k0 bel lt0) (trodAll_cons_mk (shut_int Try.underlying5 w1) trodAll_mk0)), rfl, bel.frame _, fun h => by cases h⟩

theorem none_over : Rows.automatonNoneRow.holds Try.pinned (OpenSpec.ofChange Rows.automatonNoneSpec) :=
  OpenClaim.holds_of_wide 8 Try.f8 rfl rfl rfl rfl rfl rfl rfl ⟨rfl, rfl, rfl, rfl, rfl⟩ rfl rfl rfl rfl rfl (by kernel_rfl) Try.func8 (by kernel_rfl)
    (of_decide_eq_true (by kernel_rfl)) (by unfold Func.isWrapper; first | (rw [if_pos (by decide +kernel)]; kernel_rfl) | (rw [if_neg (by decide +kernel)]; exact ⟨rfl, rfl⟩))
    (fun os started H enc _ => none_lifted os started H enc)
end Go.Proofs.Ytbakoigejihnaaa.Law
namespace Go.Proofs.Ytbakoigejihnaaa
/-- The row, under a short name, for the claim. -/
theorem automatonNone_holds : Rows.AutomatonNoneSaid := Law.none_over
end Go.Proofs.Ytbakoigejihnaaa
